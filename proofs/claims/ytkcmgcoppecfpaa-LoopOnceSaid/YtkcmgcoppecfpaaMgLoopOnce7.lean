import Derived.Test.YtkcmgcoppecfpaaMgLoopOnce6
import Derived.Test.YtkcmgcoppecfpaaMgLoopOnce5
import Derived.Test.YtkcmgcoppecfpaaMgLoopOnce4
import Derived.RangeFuncRecord
import Derived.LoopNIn
import Derived.Sort.LoopGhostIn
import Derived.TacticsIn
import Derived.OrdersIn
set_option linter.unusedVariables false
set_option linter.unusedSimpArgs false
set_option linter.unnecessarySimpa false
set_option maxHeartbeats 0
set_option maxRecDepth 100000
/- queue.Queue[reveille/api.Event]: its pile's methods. -/
namespace Go.Proofs.Ytkcmgcoppecfpaa
open Go Go.RowKit
theorem hmQE : Try.prog.follows .mixedOrders = true := by kernel_rfl
def RE (f : FuncId) (bef : EV → EV → Bool) : Prop := (f = 79 ∧ bef = fun a b : EV => decide (a.kind < b.kind))
theorem qEless0_ok (b cap : Nat) (ao : Option Addr) (rest : List SV) (T : TypeId) (xs : List (EV × Int)) (i j : Int) (h1 : 0 ≤ i) (h2 : i < xs.length) (h3 : 0 ≤ j) (h4 : j < xs.length) :
    Spec Try.prog 224 (qhG 214 6 encItE ((⟨0, 0, 0, ByteArray.empty, ByteArray.empty⟩ : EV), (0 : Int)) b ao cap 79 rest T xs) [.ptr 0 b 0, .int .i64 i, .int .i64 j] fun h' r => PreE (qhG 214 6 encItE ((⟨0, 0, 0, ByteArray.empty, ByteArray.empty⟩ : EV), (0 : Int)) b ao cap 79 rest T xs) h' ∧ r = .bool (lessI (fun a b : EV => decide (a.kind < b.kind)) (xs.getD i.toNat ((⟨0, 0, 0, ByteArray.empty, ByteArray.empty⟩ : EV), (0 : Int))) (xs.getD j.toNat ((⟨0, 0, 0, ByteArray.empty, ByteArray.empty⟩ : EV), (0 : Int)))) := by
  refine Spec.of_G 51 Try.func224 (c := bodyOf Try.f224) (by kernel_rfl) (by kernel_rfl) (Nat.le_of_ble_eq_true rfl) fun W F => ?_
  refine G_run (Cs := [(79, inl Try.prog [] true Try.f79 100)]) (kc := true) (ss := []) ⟨inl_ok trivial hmQE Try.func79 (by kernel_rfl), trivial⟩ hmQE 900 ?_
  rw [qEless0]
  repeat' first
    | exact rfl
    | exact trivial
    | assumption
    | apply And.intro
    | intro _
    | (refine ⟨[(_, _)], rfl, rfl, ?_⟩)
    | (refine ⟨[_], rfl, rfl, ?_⟩)
    | (split <;> rename_i hh <;> try simp only [Bool.not_eq_true', Bool.not_eq_false', Bool.not_true, Bool.not_false, beq_iff_eq, beq_eq_false_iff_ne, decide_eq_true_eq, decide_eq_false_iff_not, Bool.true_eq, Bool.false_eq, Bool.not_eq_true, Bool.not_eq_false, bne_iff_ne, bne_eq_false_iff_eq, ne_eq, Decidable.not_not] at hh)
    | decide
    | omega
    | (exfalso; omega)
    | exact absurd trivial hh
    | exact ⟨_, rfl⟩
    | (simp_all [lessI]; done)
    | (unfold lessI; simp only [*, decide_false, decide_true, Bool.false_or, Bool.true_or, Bool.not_false, Bool.not_true, Bool.true_and, Bool.false_and, Bool.or_false]; done)
    | fail

theorem qEless_ok : CtrOk Try.prog 224 (lessC 214 6 encItE ((⟨0, 0, 0, ByteArray.empty, ByteArray.empty⟩ : EV), (0 : Int)) RE) := by
  intro args hs N h
  unfold lessC at h
  split at h
  · rename_i l b k i k' j
    unfold onPile at h
    split at h
    · rename_i b' l2 ao n cap f rest T hl
      split at h
      · rename_i e hl2
        obtain ⟨xs, ⟨rfl, rfl, rfl, hne⟩, ⟨rfl, rfl, g1, g2, g3, g4⟩, bef, hR, hN⟩ := h
        have fin : ∀ bef' : EV → EV → Bool, bef = bef' → Spec Try.prog 224 (qhG 214 6 encItE ((⟨0, 0, 0, ByteArray.empty, ByteArray.empty⟩ : EV), (0 : Int)) b' ao cap f rest T xs) [.ptr 0 b' 0, .int .i64 i, .int .i64 j] (fun h' r => PreE (qhG 214 6 encItE ((⟨0, 0, 0, ByteArray.empty, ByteArray.empty⟩ : EV), (0 : Int)) b' ao cap f rest T xs) h' ∧ r = .bool (lessI bef' (xs.getD i.toNat ((⟨0, 0, 0, ByteArray.empty, ByteArray.empty⟩ : EV), (0 : Int))) (xs.getD j.toNat ((⟨0, 0, 0, ByteArray.empty, ByteArray.empty⟩ : EV), (0 : Int))))) → Spec Try.prog 224 hs [.ptr l b' 0, .int .i64 i, .int .i64 j] N := by
          intro bef' hb hsp
          subst hb
          refine Spec.pile 214 6 encItE ((⟨0, 0, 0, ByteArray.empty, ByteArray.empty⟩ : EV), (0 : Int)) hl hl2 hne (args' := [.ptr 0 b' 0, .int .i64 i, .int .i64 j]) (by rfl) (fun _ _ => hsp) ?_
          rintro h' r ⟨hp, rfl⟩
          refine ⟨xs, ao, cap, rest, _, fun W F w hr => hr.pre hp, rfl, ?_⟩
          rw [setPile_same 214 6 encItE ((⟨0, 0, 0, ByteArray.empty, ByteArray.empty⟩ : EV), (0 : Int)) hl hl2]
          exact hN
        rcases hR with ⟨rfl, hb⟩
        · exact fin _ hb (qEless0_ok b' cap ao rest T xs i j g1 g2 g3 g4)
      · exact h.elim
    · exact h.elim
  · exact h.elim

theorem qEswap_ok : CtrOk Try.prog 227 (swapC 214 6 encItE ((⟨0, 0, 0, ByteArray.empty, ByteArray.empty⟩ : EV), (0 : Int))) := by
  intro args hs N h
  unfold swapC at h
  split at h
  · rename_i l b k i k' j
    unfold onPile at h
    split at h
    · rename_i b' l2 ao n cap f rest T hl
      split at h
      · rename_i e hl2
        obtain ⟨xs, ⟨rfl, rfl, rfl, hne⟩, ⟨rfl, rfl, g1, g2, g3, g4⟩, hN⟩ := h
        refine Spec.pile 214 6 encItE ((⟨0, 0, 0, ByteArray.empty, ByteArray.empty⟩ : EV), (0 : Int)) hl hl2 hne (args' := [.ptr 0 b' 0, .int .i64 i, .int .i64 j]) (Post' := fun h' r => h' = qhG 214 6 encItE ((⟨0, 0, 0, ByteArray.empty, ByteArray.empty⟩ : EV), (0 : Int)) b' ao cap f rest T (swapL ((⟨0, 0, 0, ByteArray.empty, ByteArray.empty⟩ : EV), (0 : Int)) xs i.toNat j.toNat) ∧ r = .tuple []) (by rfl) (fun _ _ => ?_) ?_
        · refine Spec.of_G 32 Try.func227 (c := bodyOf Try.f227) (by kernel_rfl) (by kernel_rfl) (Nat.le_of_ble_eq_true rfl) fun W F => ?_
          refine G_run (Cs := []) (kc := false) (ss := []) trivial hmQE 900 ?_
          rw [qEswap]
          repeat' first
            | (refine ⟨xs.getD j.toNat ((⟨0, 0, 0, ByteArray.empty, ByteArray.empty⟩ : EV), (0 : Int)), rfl, ?_⟩)
            | (refine ⟨xs.getD i.toNat ((⟨0, 0, 0, ByteArray.empty, ByteArray.empty⟩ : EV), (0 : Int)), rfl, ?_⟩)
            | exact rfl
            | assumption
            | apply And.intro
            | (rw [List.length_set]; omega)
            | (rw [List.length_set])
            | omega
            | (unfold qhG; rw [length_swapL]; rfl)
            | fail
        · rintro h' r ⟨rfl, rfl⟩
          exact ⟨_, ao, cap, rest, _, fun W F w hr => hr, rfl, hN⟩
      · exact h.elim
    · exact h.elim
  · exact h.elim

theorem qEppush_ok : CtrOk Try.prog 226 (ppushC 214 6 encItE ((⟨0, 0, 0, ByteArray.empty, ByteArray.empty⟩ : EV), (0 : Int)) 64) := by
  intro args hs N h
  unfold ppushC at h
  split at h
  · rename_i l b t cs
    unfold onPile at h
    split at h
    · rename_i b' l2 ao n cap f rest T hl
      split at h
      · rename_i e hl2
        obtain ⟨xs, ⟨rfl, rfl, rfl, hne⟩, x, ⟨rfl, rfl, g1, g2⟩, hN⟩ := h
        refine Spec.pile 214 6 encItE ((⟨0, 0, 0, ByteArray.empty, ByteArray.empty⟩ : EV), (0 : Int)) hl hl2 hne (args' := [.ptr 0 b' 0, .iface 214 (.agg (encItE x))]) (Post' := fun h' r => ∃ ao2 cap2, PreE (qhG 214 6 encItE ((⟨0, 0, 0, ByteArray.empty, ByteArray.empty⟩ : EV), (0 : Int)) b' ao2 cap2 f rest T (xs ++ [x])) h' ∧ r = .tuple []) (by rfl) (fun _ _ => ?_) ?_
        · refine Spec.of_G 15 Try.func226 (c := bodyOf Try.f226) (by kernel_rfl) (by kernel_rfl) (Nat.le_of_ble_eq_true rfl) fun W F => ?_
          refine G_run (Cs := []) (kc := false) (ss := []) trivial hmQE 900 ?_
          rw [qEppush]
          repeat' first
            | (refine ⟨[x], rfl, rfl, ?_⟩)
            | exact rfl
            | exact trivial
            | assumption
            | (refine ⟨_, _, ⟨?_, rfl, trivial⟩, rfl⟩; rw [List.length_append]; rfl)
            | apply And.intro
            | intro _
            | decide
            | omega
            | fail
        · rintro h' r ⟨ao2, cap2, hp, rfl⟩
          exact ⟨_, ao2, cap2, rest, _, fun W F w hr => hr.pre hp, rfl, hN ao2 cap2⟩
      · exact h.elim
    · exact h.elim
  · exact h.elim

theorem qEppop_ok : CtrOk Try.prog 225 (ppopC 214 6 encItE ((⟨0, 0, 0, ByteArray.empty, ByteArray.empty⟩ : EV), (0 : Int))) := by
  intro args hs N h
  unfold ppopC at h
  split at h
  · rename_i l b
    unfold onPile at h
    split at h
    · rename_i b' l2 ao n cap f rest T hl
      split at h
      · rename_i e hl2
        obtain ⟨xs, ⟨rfl, rfl, rfl, hne⟩, ⟨g1, g2⟩, hN⟩ := h
        have hw : IntKind.wrap .i64 ((xs.length : Int) - 1) = ((xs.length - 1 : Nat) : Int) := by rw [IntWalk.i64_in _ (by omega)]; omega
        refine Spec.pile 214 6 encItE ((⟨0, 0, 0, ByteArray.empty, ByteArray.empty⟩ : EV), (0 : Int)) hl hl2 hne (args' := [.ptr 0 b' 0]) (Post' := fun h' r => (∃ c, h' = [⟨.blk b', .cells (.sub 1 ao cap 6 0 (xs.length - 1) :: .func (.func f) [] [] :: rest) T⟩, ⟨.sl ao cap, .vecL 214 6 encItE xs ((⟨0, 0, 0, ByteArray.empty, ByteArray.empty⟩ : EV), (0 : Int))⟩, c]) ∧ r = .iface 214 (.agg (encItE (xs.getD (xs.length - 1) ((⟨0, 0, 0, ByteArray.empty, ByteArray.empty⟩ : EV), (0 : Int)))))) (by rfl) (fun hc ha => ?_) ?_
        · refine Spec.of_G 29 Try.func225 (c := bodyOf Try.f225) (by kernel_rfl) (by kernel_rfl) (Nat.le_of_ble_eq_true rfl) fun W F => ?_
          refine G_run (Cs := []) (kc := false) (ss := []) trivial hmQE 900 ?_
          rw [qEppop]
          rw [hw]
          simp only [Int.toNat_natCast]
          repeat' first
            | exact ⟨_, rfl⟩
            | exact rfl
            | exact trivial
            | assumption
            | apply And.intro
            | intro _
            | decide
            | omega
            | fail
        · rintro h' r ⟨⟨c, rfl⟩, rfl⟩
          have hlt : (xs.take (xs.length - 1)).length = xs.length - 1 := by simp
          refine ⟨xs.take (xs.length - 1), ao, cap, rest, _, fun W F w hr => ?_, rfl, hN⟩
          have hao := (hr.vec (l := 1) rfl).2.2.1 g1
          have a1 := Rep.trim (l := 1) (k := xs.length - 1) rfl (by omega) hr
          have a2 := Rep.cellsEq (l := 0) (cs' := .vec 1 ao (xs.take (xs.length - 1)).length cap :: .func (.func f) [] [] :: rest) rfl (by rw [hlt]; simp only [denL]; rw [den_trim 1 cap 6 (xs.length - 1) hao]) a1
          exact a2.front ⟨rfl, rfl, trivial⟩
      · exact h.elim
    · exact h.elim
  · exact h.elim
end Go.Proofs.Ytkcmgcoppecfpaa

/- queue.Queue[reveille/api.Event]: the tables. -/
namespace Go.Proofs.Ytkcmgcoppecfpaa
open Go Go.RowKit
def qTE1 : Tbl := [(224, lessC 214 6 encItE ((⟨0, 0, 0, ByteArray.empty, ByteArray.empty⟩ : EV), (0 : Int)) RE), (227, swapC 214 6 encItE ((⟨0, 0, 0, ByteArray.empty, ByteArray.empty⟩ : EV), (0 : Int))), (226, ppushC 214 6 encItE ((⟨0, 0, 0, ByteArray.empty, ByteArray.empty⟩ : EV), (0 : Int)) 64), (225, ppopC 214 6 encItE ((⟨0, 0, 0, ByteArray.empty, ByteArray.empty⟩ : EV), (0 : Int))), (172, inl Try.prog [] true Try.f172 100)]
theorem qTE1_ok : AllOk Try.prog qTE1 := ⟨qEless_ok, qEswap_ok, qEppush_ok, qEppop_ok, inl_ok trivial hmQE Try.func172 (by kernel_rfl), trivial⟩
def qTE2 : Tbl := (139, upC 214 6 encItE ((⟨0, 0, 0, ByteArray.empty, ByteArray.empty⟩ : EV), (0 : Int)) 212 RE) :: (140, downAC 214 6 encItE ((⟨0, 0, 0, ByteArray.empty, ByteArray.empty⟩ : EV), (0 : Int)) 212 RE) :: qTE1
end Go.Proofs.Ytkcmgcoppecfpaa

/- The symbolic executor: calls of yield, rounds, a range over a function. -/
namespace Go.Proofs.Ytkcmgcoppecfpaa
open Go Go.RowKit
universe u

abbrev Fr (r : Option Nat) : Fence := { Fence.wide with round := r }

theorem fenced_Fr (P : Program) (r : Option Nat) : Machine.fenced P (Fr r) = Machine.fenced P Fence.wide := rfl
theorem room_Fr (r : Option Nat) (n : Nat) : (Fr r).room n := room_wide n

def withD (ds : List Deferred) (a : Act) : Act := { a with defers := ds }
theorem withD_put (ds : List Deferred) (a : Act) (d : Option Tmp) (v : Value) : withD ds (a.put d v) = (withD ds a).put d v := by
  cases d <;> rfl
theorem withD_eval (ds : List Deferred) (a : Act) : (withD ds a).eval = a.eval := by
  funext x; cases x <;> rfl
theorem put_defers (a : Act) (d : Option Tmp) (v : Value) : (a.put d v).defers = a.defers := by cases d <;> rfl

/-! ### From outside a round into one -/
section
variable {r : Option Nat} {ds : List Deferred} {P : Program} {o : Oper} {a : Act} {w : World} {K : Act → World → Prop} {Q Q' : Exit → Act → World → Prop}

theorem rowsIn_of {row : String} {args : Array Value} {R : Value → World → Prop} (h : Rows P row args w R) (n : Nat) : RowsIn (Fr r) n P row args w R := fun c cs _ =>
  let ⟨v, w', hr, hs⟩ := h c cs
  ⟨v, w', hr, stepsIn_wide.2 hs⟩

theorem callsIn_of {f : FuncId} {args : Array Value} {R : Ending → World → Prop} (h : Calls P f args w R) (n : Nat) : CallsIn (Fr r) n P f args w R :=
  (callsIn_wide (n := n)).2 h

theorem resolve_nopanic {ρ : Operand → Value} {c : Call} {t : TypeId} {v : Value} {w' : World} : (resolve ρ c t).run P w ≠ .halt (.panic v) w' := by
  intro h
  unfold resolve at h
  cases hc : c.callee with
  | builtin b => rw [hc] at h; simp at h
  | invoke x n => rw [hc] at h; simp at h
  | value f =>
    rw [hc] at h
    simp only [Deferred.ofValue] at h
    cases hf : ρ f <;> rw [hf] at h <;> simp [stuck] at h

theorem lift_op (hK : ∀ a' w', K a' w' → a'.defers = []) (hQ : ∀ c a' w', Q (.panic c) a' w' → Q' (.panic c) (withD ds a') w') (hL : ¬ LetsOut Q) (ha : a.defers = []) (h : o.wp P a w K Q) :
    o.wpIn (Fr r) 0 P (withD ds a) w (fun a' w' => ∃ a0, a' = withD ds a0 ∧ K a0 w') Q' := by
  refine ⟨fun _ _ => trivial, ?_⟩
  rw [withD_eval]
  have hnd : ∀ d w', (∃ c, o.op = .defer c) → o.upon P a K Q (.ok (.defer d) w') → False := fun d w' _ h => by
    have := hK _ _ h
    rw [put_defers] at this
    cases this
  have hsem : Oper.semAt (Fr r).round a.eval o = execOp a.eval o := by
    refine Oper.semAt_eq _ _ _ fun c hc => ?_
    unfold Oper.wp at h
    have e : execOp a.eval o = (do pure (.defer (← resolve a.eval c o.type)) : Sem Next) := by unfold execOp; rw [hc]
    rw [e, Sem.run_bind] at h
    cases hr : (resolve a.eval c o.type).run P w with
    | ok d w' =>
      rw [hr] at h
      exact hnd d w' ⟨c, hc⟩ h
    | halt x w' =>
      rw [hr] at h
      cases x <;> simp only [Result.andThen, Oper.upon] at h
      exact resolve_nopanic hr
  rw [hsem]
  unfold Oper.wp at h
  generalize (execOp a.eval o).run P w = res at h
  have fin : ∀ v w', K (a.put o.dst v) w' → ∃ a0, (withD ds a).put o.dst v = withD ds a0 ∧ K a0 w' := fun v w' h => ⟨_, (withD_put _ _ _ _).symm, h⟩
  cases res with
  | ok x w' =>
    cases x <;> simp only [Oper.upon, Oper.uponIn] at h ⊢
    case value v => exact fin _ _ h
    case skip => exact fin _ _ h
    case enter f args =>
      refine ⟨fun h => by simp [Fence.wide] at h, ?_⟩
      refine callsIn_of (Calls.mono h ?_) _
      rintro e w'' h
      cases e with
      | returned v => exact fin _ _ h
      | panicked ch => exact hQ _ _ _ h
      | outgrown => exact (hL h).elim
    case row row args =>
      refine ⟨fun h => by simp [Fence.wide] at h, ?_⟩
      exact rowsIn_of (Rows.mono h fun v w'' h => fin _ _ h) _
    case defer d =>
      have := hK _ _ h
      rw [put_defers] at this
      cases this
  | halt x w' =>
    cases x <;> simp only [Oper.upon, Oper.uponIn] at h ⊢
    exact hQ _ _ _ h

theorem wpAny_nod {md : Region.Mode} {ops : Array Oper} (hQ : ∀ e a' w', Q e a' w' → a'.defers = []) (hL : ¬ LetsOut Q) : ∀ (n : Nat) (listed : Array Bool) (a : Act) (w : World), wpAny P md ops Q n listed a w → a.defers = []
  | 0, listed, a, w, h => hQ _ _ _ h.2
  | n + 1, listed, a, w, h => by
    cases hrd : Region.ready md ops listed with
    | nil => exact hQ _ _ _ (h.1 hrd)
    | cons i l =>
      have h1 := h.2 i (by rw [hrd]; exact List.mem_cons_self)
      unfold wpOp at h1
      have ih := wpAny_nod (md := md) (ops := ops) hQ hL n (listed.setIfInBounds i true)
      split at h1
      · have := ih _ _ h1
        exact this
      · rename_i o ho
        split at h1
        · have h1 := h1.resolve_right fun h => hL h.2
          unfold Oper.wp at h1
          generalize (execOp a.eval o).run P w = res at h1
          have fin : ∀ v w', wpAny P md ops Q n (listed.setIfInBounds i true) (a.put o.dst v) w' → a.defers = [] := fun v w' h => by have := ih _ _ h; rwa [put_defers] at this
          cases res with
          | ok x w' =>
            cases x <;> simp only [Oper.upon] at h1
            case value v => exact fin _ _ h1
            case skip => exact fin _ _ h1
            case enter f args =>
              obtain ⟨e, w'', fr, hr, _⟩ := h1 []
              cases e with
              | returned v => exact fin _ _ hr
              | panicked ch => exact hQ _ _ _ hr
              | outgrown => exact (hL hr).elim
            case row row args =>
              obtain ⟨v, w'', hr, _⟩ := h1 default []
              exact fin _ _ hr
            case defer d =>
              have := ih _ _ h1
              rw [put_defers] at this
              cases this
          | halt x w' =>
            cases x <;> simp only [Oper.upon] at h1
            exact hQ _ _ _ h1
        · have := ih _ _ h1
          rwa [put_defers] at this

theorem lift_any {md : Region.Mode} {ops : Array Oper} (hQ : ∀ e a' w', Q e a' w' → a'.defers = [] ∧ Q' e (withD ds a') w') (hL : ¬ LetsOut Q) : ∀ (n : Nat) (listed : Array Bool) (a : Act) (w : World), wpAny P md ops Q n listed a w →
    wpAnyIn (Fr r) 0 P md ops Q' n listed (withD ds a) w
  | 0, listed, a, w, h => ⟨h.1, (hQ _ _ _ h.2).2⟩
  | n + 1, listed, a, w, h => by
    have hnd := wpAny_nod (P := P) (md := md) (ops := ops) (Q := Q) (fun e a' w' h => (hQ e a' w' h).1) hL
    have ha := hnd _ _ _ _ h
    refine ⟨fun e => (hQ _ _ _ (h.1 e)).2, fun i hi => ?_⟩
    have h1 := h.2 i hi
    have ih := lift_any (md := md) (ops := ops) hQ hL n (listed.setIfInBounds i true)
    unfold wpOp at h1
    unfold wpOpIn
    split at h1
    · rename_i ho
      rw [ho]
      exact ih _ _ h1
    · rename_i o ho
      rw [ho]
      simp only
      have hw : yielded ops (withD ds a).tmps = yielded ops a.tmps := rfl
      rw [hw]
      split at h1
      · rename_i hwd
        rw [if_pos hwd]
        have h1 := h1.resolve_right fun h => hL h.2
        refine Oper.wpIn_mono ?_ (lift_op (r := r) (ds := ds) (hnd n _) (fun c a' w' h => (hQ _ _ _ h).2) hL ha h1)
        rintro a' w' ⟨a0, rfl, h2⟩
        exact ih _ _ h2
      · rename_i hwd
        rw [if_neg hwd]
        refine ⟨fun _ _ => trivial, ?_⟩
        rw [← withD_put]
        exact ih _ _ h1
end

/-! ### The code that is left -/

def postR (r : Option Nat) (P : Program) (Q : Exit → Act → World → Prop) : List Frm → Exit → Act → World → Prop
  | [] => Q
  | .code c :: k => Exit.then (c.wpIn (Fr r) 0 P (postR r P Q k)) (postR r P Q k)
  | .ops ops l :: k => Exit.then (wpListIn (Fr r) 0 P ops (postR r P Q k) l) (postR r P Q k)
  | .blk id :: k => Exit.inBlock id (postR r P Q k)
  | .loop J :: k => Exit.then J (postR r P Q k)
  | .un c n :: k => Exit.then (Code.roundsIn (Fr r) 0 P c (postR r P Q k) n) (postR r P Q k)

def swpR (r : Option Nat) (P : Program) (Q : Exit → Act → World → Prop) : List Frm → Act → World → Prop
  | [] => Q .normal
  | .code c :: k => c.wpIn (Fr r) 0 P (postR r P Q k)
  | .ops ops l :: k => wpListIn (Fr r) 0 P ops (postR r P Q k) l
  | .blk _ :: k => postR r P Q k .normal
  | .loop J :: _ => J
  | .un c n :: k => Code.roundsIn (Fr r) 0 P c (postR r P Q k) n

theorem swpR_normal {r : Option Nat} {P : Program} {Q : Exit → Act → World → Prop} : ∀ (k : List Frm) (a : Act) (w : World), swpR r P Q k a w → postR r P Q k .normal a w
  | [], _, _, h => h
  | .code _ :: _, _, _, h => h
  | .ops .. :: _, _, _, h => h
  | .blk _ :: k, _, _, h => by show Exit.inBlock _ _ _ _ _; exact h
  | .loop _ :: _, _, _, h => h
  | .un _ _ :: _, _, _, h => h

def GR (r : Option Nat) (ds : List Deferred) (P : Program) (Q : Exit → Act → World → Prop) (W : World) (F : List Ch) (k : List Frm) (st : Sy) : Prop :=
  ∀ w, Rep W F st.heap w → swpR r P Q k (withD ds (actOf st)) w

theorem postR_exit {r : Option Nat} {P : Program} {Q : Exit → Act → World → Prop} (id : Nat) (a : Act) (w : World) : ∀ (k k' : List Frm), popTo id k = some k' → postR r P Q k' .normal a w → postR r P Q k (.exit id) a w
  | [], k', h, _ => by simp [popTo] at h
  | .blk i :: k, k', h, hp => by
    simp only [popTo] at h
    show Exit.inBlock i (postR r P Q k) (.exit id) a w
    split at h
    · rename_i hi; subst hi; cases h; simp [Exit.inBlock, hp]
    · rename_i hi
      simp only [Exit.inBlock]
      rw [if_neg (fun e => hi e.symm)]
      exact postR_exit id a w k k' h hp
  | .code c :: k, k', h, hp => postR_exit id a w k k' h hp
  | .ops o l :: k, k', h, hp => postR_exit id a w k k' h hp
  | .loop J :: k, k', h, hp => postR_exit id a w k k' h hp
  | .un _ _ :: k, k', h, hp => postR_exit id a w k k' h hp

theorem postR_exit_none {r : Option Nat} {P : Program} {Q : Exit → Act → World → Prop} (id : Nat) (a : Act) (w : World) : ∀ (k : List Frm), popTo id k = none → Q (.exit id) a w → postR r P Q k (.exit id) a w
  | [], h, hp => hp
  | .blk i :: k, h, hp => by
    simp only [popTo] at h
    show Exit.inBlock i (postR r P Q k) (.exit id) a w
    split at h
    · cases h
    · rename_i hi
      simp only [Exit.inBlock]
      rw [if_neg (fun e => hi e.symm)]
      exact postR_exit_none id a w k h hp
  | .code c :: k, h, hp => postR_exit_none id a w k h hp
  | .ops o l :: k, h, hp => postR_exit_none id a w k h hp
  | .loop J :: k, h, hp => postR_exit_none id a w k h hp
  | .un _ _ :: k, h, hp => postR_exit_none id a w k h hp

theorem postR_ret {r : Option Nat} {P : Program} {Q : Exit → Act → World → Prop} (a : Act) (w : World) : ∀ (k : List Frm), Q .ret a w → postR r P Q k .ret a w
  | [], h => h
  | .blk i :: k, h => postR_ret a w k h
  | .code c :: k, h => postR_ret a w k h
  | .ops o l :: k, h => postR_ret a w k h
  | .loop J :: k, h => postR_ret a w k h
  | .un _ _ :: k, h => postR_ret a w k h

theorem postR_panic {r : Option Nat} {P : Program} {Q : Exit → Act → World → Prop} {c : List PanicEntry} {a : Act} {w : World} : ∀ (k : List Frm), postR r P Q k (.panic c) a w ↔ Q (.panic c) a w
  | [] => Iff.rfl
  | .blk i :: k => postR_panic k
  | .code _ :: k => postR_panic k
  | .ops _ _ :: k => postR_panic k
  | .loop _ :: k => postR_panic k
  | .un _ _ :: k => postR_panic k

theorem postR_out {r : Option Nat} {P : Program} {Q : Exit → Act → World → Prop} {a : Act} {w : World} : ∀ (k : List Frm), postR r P Q k .outgrown a w ↔ Q .outgrown a w
  | [] => Iff.rfl
  | .blk i :: k => postR_out k
  | .code _ :: k => postR_out k
  | .ops _ _ :: k => postR_out k
  | .loop _ :: k => postR_out k
  | .un _ _ :: k => postR_out k


/-! ### Calls of yield -/

def YSpec (P : Program) (l : Nat) (hs : List Ent) (args : List SV) (Post : List Ent → SV → Prop) : Prop :=
  ∀ W F w, Rep W F hs w → ∃ fn tmps assign body, (Instr.yield l (denL args).toArray).run P w = .ok (.round l fn tmps assign body) w ∧
    RoundIn Fence.wide 0 P l fn tmps assign body w fun e w' => ∃ h' r, Post h' r ∧ e = .returned (den r) ∧ Rep W F h' w'
def VSpec (P : Program) (v : Value) (hs : List Ent) (args : List SV) (Post : List Ent → SV → Prop) : Prop :=
  (∃ f first cap, v = .func (.func f) first cap ∧ callOk P f = true ∧ ∀ W F w, Rep W F hs w → Calls P f (first ++ (denL args).toArray ++ cap) w fun e w' => ∃ h' r, Post h' r ∧ e = .returned (den r) ∧ Rep W F h' w') ∨
  ∃ l, v = .func (.yield l) #[] #[] ∧ YSpec P l hs args Post
abbrev YCtr := Value → Ctr
def YOk (P : Program) (Y : YCtr) : Prop := ∀ v args hs N, Y v args hs N → VSpec P v hs args N
def noY : YCtr := fun _ _ _ _ => False
theorem noY_ok (P : Program) : YOk P noY := fun _ _ _ _ h => h.elim

def valueOf (st : Sy) (o : Oper) : Option (Value × List SV) :=
  match o.op with
  | .call ⟨.value fv, xs, _⟩ => match st.eval fv with
    | .func (.yield l) [] [] => some (.func (.yield l) #[] #[], evals st xs.toList)
    | .raw v => some (v, evals st xs.toList)
    | _ => none
  | _ => none

def xopY (P : Program) (Cs : Tbl) (Y : YCtr) (ops : Array Oper) (st : Sy) (o : Oper) (N : Sy → Prop) (S : Prop) : Prop :=
  match valueOf st o with
  | some (v, args) => match o.guard with
    | none => Y v args st.heap (fun h' r => N (({ st with heap := h' } : Sy).put o.dst r))
    | some (g, want) => match slotOf ops g with
      | some t => match nth st.tmps t with
        | some (.bool b) => match want with
          | true => match b with
            | true => Y v args st.heap (fun h' r => N (({ tmps := setN st.tmps t (.bool true), heap := h' } : Sy).put o.dst r))
            | false => N (({ st with tmps := setN st.tmps t (.bool false) } : Sy).put o.dst (.raw undef))
          | false => match b with
            | true => N (({ st with tmps := setN st.tmps t (.bool true) } : Sy).put o.dst (.raw undef))
            | false => Y v args st.heap (fun h' r => N (({ tmps := setN st.tmps t (.bool false), heap := h' } : Sy).put o.dst r))
        | _ => S
      | none => S
  | none => xguard P Cs ops st o N S

/-! ### A drawn region in which a function value is called -/
section
variable {P : Program} {ops : Array Oper} {md : Region.Mode} {Q : Exit → Act → World → Prop} {keep : Nat → Bool} {S : World → Prop} {c : Nat} {C : Nat → Array Bool → Act → World → Prop}
def wpAnyX (P : Program) (md : Region.Mode) (ops : Array Oper) (Q : Exit → Act → World → Prop) (keep : Nat → Bool) (S : World → Prop) (c : Nat) (C : Nat → Array Bool → Act → World → Prop) : Nat → Array Bool → Act → World → Prop
  | 0, _, _, _ => False
  | n + 1, listed, a, w => a.defers = [] ∧ match decide (Region.ready md ops listed = [c]) with
    | true => C n listed a w
    | false => c ∉ Region.ready md ops listed ∧ Region.ready md ops listed ≠ [] ∧ ∀ i ∈ Region.ready md ops listed, wpOp P ops Q i (fun a' w' => (keep i = true → S w → S w') ∧ wpAnyX P md ops Q keep S c C n (listed.setIfInBounds i true) a' w') a w
theorem wpAnyX_nod : ∀ {n : Nat} {listed : Array Bool} {a : Act} {w : World}, wpAnyX P md ops Q keep S c C n listed a w → a.defers = []
  | 0, _, _, _, h => h.elim
  | _ + 1, _, _, _, h => h.1
theorem wpAnyX_first {i : Nat} {oi : Oper} {v : Value} {S' : World → Prop} (hi : ops[i]? = some oi) (hcw : Region.waitsFor md ops c i = true) (hsel : ∀ (j : Nat) (o : Oper) cs b, ops[j]? = some o → o.op ≠ .select cs b)
    (hQ : ∀ c a w, Q (.panic c) (a.put oi.dst v) w → Q (.panic c) a w) :
    ∀ (n : Nat) (listed : Array Bool) (a : Act) (w : World),
      (∀ j oj, ops[j]? = some oj → j ≠ i → listed.getD j true = false → (∀ e ∈ oj.after, Region.binds md e = true → e.on ≠ i) →
        oi.apart ops oj = true ∧ ∀ w w', (keep j = true → S w → S w') → S' w → S' w') →
      i ∈ Region.ready md ops listed → YieldsIf P ops S' oi v a → S' w → a.defers = [] →
      wpAnyX P md ops Q keep S c C n (listed.setIfInBounds i true) (a.put oi.dst v) w → wpAnyX P md ops Q keep S c C (n + 1) listed a w := by
  intro n
  induction n with
  | zero =>
    intro listed a w _ hr hy hS hd hH
    exact hH.elim
  | succ n ih =>
    intro listed a w hother hr hy hS hd hH
    have hc : c ∉ Region.ready md ops listed := by
      intro hc
      obtain ⟨hun, oc, hoc, hall⟩ := mem_ready.1 hc
      obtain ⟨oc', hoc', e, he, hb, hon⟩ := Region.waitsFor_spec hcw
      rw [hoc] at hoc'; cases hoc'
      have h1 := hall e he hb
      rw [hon] at h1
      rw [getD_both (mem_ready.1 hr).1] at h1
      cases h1
    have hnc : decide (Region.ready md ops listed = [c]) = false := decide_eq_false fun e => hc (by rw [e]; exact List.mem_singleton.2 rfl)
    refine ⟨hd, ?_⟩
    rw [hnc]
    refine ⟨hc, fun h => absurd hr (h ▸ List.not_mem_nil), fun j hj => ?_⟩
    rcases Decidable.em (j = i) with e | e
    · subst e; exact hy.wpOp hi hS ⟨fun _ h => h, hH⟩
    · obtain ⟨hun, oj, hoj, hall⟩ := mem_ready.1 hj
      have hno : ∀ e ∈ oj.after, Region.binds md e = true → e.on ≠ i := by
        intro x hx hb hxi
        have h1 := hall x hx hb
        rw [hxi] at h1
        rw [getD_both (mem_ready.1 hr).1] at h1
        cases h1
      obtain ⟨hap, hkeep⟩ := hother j oj hoj e hun hno
      have hjr := ready_mono hj e
      obtain ⟨_, hH⟩ := hH
      have hnc2 : decide (Region.ready md ops (listed.setIfInBounds i true) = [c]) = false := by
        refine decide_eq_false fun e2 => ?_
        rw [e2] at hjr
        rw [List.mem_singleton.1 hjr] at hj
        exact hc hj
      rw [hnc2] at hH
      have h2 := wpOp_putIf hoj hap (fun cs b => hsel i oi cs b hi) (fun cs b => hsel j oj cs b hoj) hQ hy (hH.2.2 j hjr)
      refine wpOp_mono (fun a' w' h3 => ⟨h3.2.1, ?_⟩) h2
      have hd2 : a'.defers = [] := by
        have := wpAnyX_nod h3.2.2
        rwa [put_defers] at this
      refine ih (listed.setIfInBounds j true) a' w' (fun k ok hk hki hkun hkno => ?_) (ready_mono hr (Ne.symm e)) h3.1 (hkeep w w' h3.2.1 hS) hd2 ?_
      · refine hother k ok hk hki ?_ hkno
        rcases Decidable.em (j = k) with ejk | ejk
        · subst ejk; exact hun
        · rw [getD_set_ne true ejk] at hkun; exact hkun
      · rw [Array.setIfInBounds_comm _ _ e]
        exact h3.2.2
theorem lift_X {r : Option Nat} {ds : List Deferred} {Q' : Exit → Act → World → Prop} (hQ : ∀ ch a' w', Q (.panic ch) a' w' → Q' (.panic ch) (withD ds a') w') (hL : ¬ LetsOut Q)
    (hC : ∀ n listed a w, C n listed a w → wpOpIn (Fr r) 0 P ops Q' c (wpAnyIn (Fr r) 0 P md ops Q' n (listed.setIfInBounds c true)) (withD ds a) w) :
    ∀ (n : Nat) (listed : Array Bool) (a : Act) (w : World), wpAnyX P md ops Q keep S c C n listed a w → wpAnyIn (Fr r) 0 P md ops Q' n listed (withD ds a) w
  | 0, _, _, _, h => h.elim
  | n + 1, listed, a, w, h => by
    have ih := lift_X hQ hL hC n
    obtain ⟨hd, h⟩ := h
    split at h
    · rename_i e
      rw [decide_eq_true_eq] at e
      refine ⟨fun e2 => (by rw [e] at e2; cases e2), fun i hi => ?_⟩
      rw [e] at hi
      rw [List.mem_singleton.1 hi]
      exact hC _ _ _ _ h
    · obtain ⟨hc, hne, h⟩ := h
      refine ⟨fun e => absurd e hne, fun i hi => ?_⟩
      have h1 := h i hi
      unfold wpOp at h1
      unfold wpOpIn
      split at h1
      · rename_i ho
        rw [ho]
        exact ih _ _ _ h1.2
      · rename_i o ho
        rw [ho]
        simp only
        have hw : yielded ops (withD ds a).tmps = yielded ops a.tmps := rfl
        rw [hw]
        split at h1
        · rename_i hwd
          rw [if_pos hwd]
          have h1 := h1.resolve_right fun h => hL h.2
          refine Oper.wpIn_mono ?_ (lift_op (r := r) (ds := ds) (fun a' w' h => wpAnyX_nod h.2) (fun c a' w' h => hQ _ _ _ h) hL hd h1)
          rintro a' w' ⟨a0, rfl, h2⟩
          exact ih _ _ _ h2.2
        · rename_i hwd
          rw [if_neg hwd]
          refine ⟨fun _ _ => trivial, ?_⟩
          rw [← withD_put]
          exact ih _ _ _ h1.2
end
def isVal (o : Oper) : Bool := match o.op with
  | .call ⟨.value (.tmp _), _, _⟩ => true
  | _ => false
def valC (ops : Array Oper) : Option Nat := match (List.range ops.size).filter fun i => match ops[i]? with
    | some o => isVal o
    | none => false with
  | [c] => some c
  | _ => none
def isOne (l : List Nat) (c : Nat) : Bool := match l with
  | [x] => Nat.beq x c
  | _ => false
theorem isOne_spec {l : List Nat} {c : Nat} (h : isOne l c = true) : l = [c] := by
  unfold isOne at h
  split at h
  · rw [Nat.eq_of_beq_eq_true h]
  · cases h
theorem isOne_not {l : List Nat} {c : Nat} (h : isOne l c = false) : l ≠ [c] := by
  rintro rfl
  unfold isOne at h
  simp at h
def firstX (kc ka : Bool) (ops : Array Oper) (listed : Array Bool) (ok : Bool) (c : Nat) : Nat → Nat → Option Nat
  | 0, _ => none
  | n + 1, i => match takeB kc ka ops listed ok i && Region.waitsFor .any ops c i with
    | true => some i
    | false => firstX kc ka ops listed ok c n (i + 1)
theorem firstX_spec {kc ka : Bool} {ops : Array Oper} {listed : Array Bool} {ok : Bool} {c : Nat} : ∀ (n i j : Nat), firstX kc ka ops listed ok c n i = some j → takeB kc ka ops listed ok j = true ∧ Region.waitsFor .any ops c j = true
  | 0, _, _, h => by cases h
  | n + 1, i, j, h => by
    simp only [firstX] at h
    split at h
    · rename_i e; cases h; simpa using e
    · exact firstX_spec n (i + 1) j h
def xdrawX (P : Program) (Cs : Tbl) (Y : YCtr) (ops : Array Oper) (kc ka : Bool) (h0 : List Ent) (c : Nat) (N : Sy → Prop) (S : Prop) : Nat → Array Bool → Bool → Sy → Prop
  | 0, _, _, _ => S
  | n + 1, listed, ok, st => match isOne (Region.ready .any ops listed) c with
    | true => match nth ops.toList c with
      | some o => xopY P Cs Y ops st o (fun st' => xdraw P Cs ops kc ka [] N S n (listed.setIfInBounds c true) false st') S
      | none => S
    | false => match firstX kc ka ops listed ok c ops.size 0 with
      | some i => match nth ops.toList i with
        | some o => xtake P ops (match stillB o with | true => [] | false => h0) st o (fun st' => xdrawX P Cs Y ops kc ka h0 c N S n (listed.setIfInBounds i true) ok st') S
        | none => S
      | none => match (Region.ready .any ops listed).contains c with
        | true => S
        | false => match Region.ready .any ops listed with
          | [] => S
          | l => allJ l fun j => match nth ops.toList j with
            | some o => match quietB o with
             | true => xtake P ops st.heap st o (fun st' => xdrawX P Cs Y ops kc ka h0 c N S n (listed.setIfInBounds j true) ok st') S
             | false => match keepN kc ka ops j with
              | true => xguard P Cs ops st o (fun st' => PreE h0 st'.heap ∧ xdrawX P Cs Y ops kc ka h0 c N S n (listed.setIfInBounds j true) ok st') S
              | false => xguard P Cs ops st o (fun st' => xdrawX P Cs Y ops kc ka h0 c N S n (listed.setIfInBounds j true) false st') S
            | none => S
section
variable {Cs : Tbl} {Y : YCtr} {P : Program} {W : World} {F : List Ch} {ops : Array Oper} {Q : Exit → Act → World → Prop} {kc ka : Bool} {h0 : List Ent} {N : Sy → Prop} {S : Prop} {c : Nat}
theorem sound_xdrawX (hC : AllOk P Cs) (hsel : Region.noSelect ops = true) (hQ : ∀ c d v a w, Q (.panic c) (Act.put a d v) w → Q (.panic c) a w) (hS : ¬ S) :
    ∀ (n : Nat) (listed : Array Bool) (ok : Bool) (st : Sy) (w : World), Rep W F st.heap w → (ok = true → Rep W F h0 w) → xdrawX P Cs Y ops kc ka h0 c N S n listed ok st →
      wpAnyX P .any ops Q (keepN kc ka ops) (Rep W F h0) c (fun n listed a w => ∃ st o, a = actOf st ∧ Rep W F st.heap w ∧ ops[c]? = some o ∧ xopY P Cs Y ops st o (fun st' => xdraw P Cs ops kc ka [] N S n (listed.setIfInBounds c true) false st') S) n listed (actOf st) w
  | 0, listed, ok, st, w, hr, hok, hx => (hS hx).elim
  | n + 1, listed, ok, st, w, hr, hok, hx => by
    have ih := sound_xdrawX hC hsel hQ hS n
    simp only [xdrawX] at hx
    split at hx
    · rename_i he
      have he := isOne_spec he
      refine ⟨rfl, ?_⟩
      rw [decide_eq_true he]
      split at hx
      · rename_i o ho
        rw [nth_eq, Array.getElem?_toList] at ho
        exact ⟨st, o, rfl, hr, ho, hx⟩
      · exact (hS hx).elim
    rename_i hne
    have hne := isOne_not hne
    split at hx
    · rename_i i hi
      obtain ⟨htk, hcw⟩ := firstX_spec _ _ _ hi
      split at hx
      · rename_i o ho
        rw [nth_eq, Array.getElem?_toList] at ho
        simp only [takeB, ho, Bool.and_eq_true, Bool.or_eq_true] at htk
        obtain ⟨⟨⟨_, hrd⟩, hfr⟩, hcl⟩ := htk
        by_cases hst : stillB o = true
        · obtain ⟨v, st', hn, hh, ha, hy⟩ := sound_xtake (W := W) (F := F) (C := fun _ => True) (.inr hst) hx hS
          refine wpAnyX_first (S' := fun _ => True) ho hcw (Region.noSelect_spec hsel) (fun c a w => hQ c o.dst v a w) n listed _ w (fun j oj hj hne hun hno => ⟨Region.free_spec ho hfr j oj hj hne hun hno, fun _ _ _ _ => trivial⟩) (by simpa using hrd) hy trivial rfl ?_
          rw [← ha]
          exact ih _ ok st' w (by rw [hh]; exact hr) hok hn
        · have hst' : stillB o = false := by simpa using hst
          obtain ⟨hok1, hhold⟩ := hcl.resolve_left hst
          rw [hst'] at hx
          obtain ⟨v, st', hn, hh, ha, hy⟩ := sound_xtake (W := W) (F := F) (C := Rep W F h0) (.inl fun _ h => h) hx hS
          refine wpAnyX_first (S' := Rep W F h0) ho hcw (Region.noSelect_spec hsel) (fun c a w => hQ c o.dst v a w) n listed _ w (fun j oj hj hne hun hno => ⟨Region.free_spec ho hfr j oj hj hne hun hno, ?_⟩) (by simpa using hrd) hy (hok hok1) rfl ?_
          · intro w1 w2 hk hw1
            refine hk ?_ hw1
            simp only [holdB, List.all_eq_true, List.mem_range] at hhold
            have h1 := hhold j (Array.getElem?_eq_some_iff.1 hj).1
            simp only [hun, Bool.false_or, Bool.or_eq_true, beq_iff_eq, hne, false_or] at h1
            rcases h1 with h1 | h1
            · exact h1
            · obtain ⟨oj', hj', e, he, hb, hon⟩ := Region.waitsFor_spec h1
              rw [hj] at hj'; cases hj'
              exact absurd hon (hno e he hb)
          · rw [← ha]
            exact ih _ ok st' w (by rw [hh]; exact hr) hok hn
      · exact (hS hx).elim
    · split at hx
      · exact (hS hx).elim
      rename_i hnc
      have hnc : c ∉ Region.ready .any ops listed := by simpa using hnc
      split at hx
      · exact (hS hx).elim
      · rename_i hnil
        refine ⟨rfl, ?_⟩
        rw [decide_eq_false hne]
        refine ⟨hnc, hnil, fun j hj => ?_⟩
        have hx := allJ_mem hx j hj
        obtain ⟨_, o, ho, _⟩ := mem_ready.1 hj
        have ho' : nth ops.toList j = some o := by rw [nth_eq, Array.getElem?_toList]; exact ho
        rw [ho'] at hx
        simp only at hx
        split at hx
        · obtain ⟨v, st', hn, hh, ha, hy⟩ := sound_xtake (W := W) (F := F) (C := Rep W F st.heap) (.inl fun _ h => h) hx hS
          refine hy.wpOp ho hr ⟨fun _ h => h, ?_⟩
          rw [← ha]
          exact ih _ ok st' w (by rw [hh]; exact hr) hok hn
        split at hx
        · exact wpOp_guard hC ho hr hx hS fun st' hn w' hr' => ⟨fun _ _ => hr'.pre hn.1, ih _ ok st' w' hr' (fun _ => hr'.pre hn.1) hn.2⟩
        · rename_i hk
          refine wpOp_guard hC ho hr hx hS fun st' hn w' hr' => ⟨fun h => ?_, ih _ false st' w' hr' (fun h => by cases h) hn⟩
          rw [hk] at h; cases h
end

def runR (P : Program) (Cs : Tbl) (Y : YCtr) (kc : Bool) (ss : List Nat) (K : List Frm → Sy → Prop) (X : Code → Sy → Prop) (E : Sy → Prop) : Nat → List Frm → Sy → Prop
  | 0, k, st => K k st
  | _ + 1, [], st => E st
  | n + 1, .code c :: k, st => match c with
    | .skip => runR P Cs Y kc ss K X E n k st
    | .label _ => runR P Cs Y kc ss K X E n k st
    | .seq a b => runR P Cs Y kc ss K X E n (.code a :: .code b :: k) st
    | .cond (.tmp t) a b => match nth st.tmps t with
      | some (.bool b') => match b' with
        | true => runR P Cs Y kc ss K X E n (.code a :: k) { st with tmps := setN st.tmps t (.bool true) }
        | false => runR P Cs Y kc ss K X E n (.code b :: k) { st with tmps := setN st.tmps t (.bool false) }
      | _ => K (.code (.cond (.tmp t) a b) :: k) st
    | .block id c => runR P Cs Y kc ss K X E n (.code c :: .blk id :: k) st
    | .exit id => match popTo id k with
      | some k' => runR P Cs Y kc ss K X E n k' st
      | none => X (.exit id) st
    | .ret => X .ret st
    | .region id ops dr => match memN id ss with
      | true => K (.code (.region id ops dr) :: k) st
      | false => match dr with
        | false => runR P Cs Y kc ss K X E n (.ops ops ops.toList :: k) st
        | true => match Region.noSelect ops with
          | true => match valC ops with
            | some c => xdrawX P Cs Y ops kc (hasP ss) (preH ss st.heap) c (fun st' => runR P Cs Y kc ss K X E n k st') (K (.code (.region id ops true) :: k) st) ops.size (Array.replicate ops.size false) true st
            | none => xdraw P Cs ops kc (hasP ss) (preH ss st.heap) (fun st' => runR P Cs Y kc ss K X E n k st') (K (.code (.region id ops true) :: k) st) ops.size (Array.replicate ops.size false) true st
          | false => K (.code (.region id ops true) :: k) st
    | .cond x a b => K (.code (.cond x a b) :: k) st
    | .loop c => match memN (Nat.add 100000 (firstReg c)) ss with
      | true => runR P Cs Y kc ss K X E n (.un c 50 :: k) st
      | false => K (.code (.loop c) :: k) st
    | c => K (.code c :: k) st
  | n + 1, .blk _ :: k, st => runR P Cs Y kc ss K X E n k st
  | n + 1, .ops ops l :: k, st => match l with
    | [] => runR P Cs Y kc ss K X E n k st
    | o :: l => xopY P Cs Y ops st o (fun st' => runR P Cs Y kc ss K X E n (.ops ops l :: k) st') (K (.ops ops (o :: l) :: k) st)
  | _ + 1, .loop J :: k, st => K (.loop J :: k) st
  | n + 1, .un c m :: k, st => match m with
    | 0 => K (.un c 0 :: k) st
    | m + 1 => runR P Cs Y kc ss K X E n (.code c :: .un c m :: k) st

section
variable {r : Option Nat} {ds : List Deferred} {P : Program} {Cs : Tbl} {Y : YCtr} {kc : Bool} {ss : List Nat} {W : World} {F : List Ch} {Q : Exit → Act → World → Prop}

theorem sound_value (hY : YOk P Y) {st : Sy} {o : Oper} {v : Value} {args : List SV} {ops : Array Oper} {rest : List Oper} {w : World} {N : Sy → Prop} (he : valueOf st o = some (v, args)) (hw : Region.wanted o (yielded ops (actOf st).tmps) = true) (hr : Rep W F st.heap w)
    (hx : Y v args st.heap (fun h' r => N (({ st with heap := h' } : Sy).put o.dst r))) (hN : ∀ st', N st' → ∀ w', Rep W F st'.heap w' → wpListIn (Fr r) 0 P ops Q rest (withD ds (actOf st')) w') :
    wpListIn (Fr r) 0 P ops Q (o :: rest) (withD ds (actOf st)) w := by
  unfold valueOf at he
  split at he
  case h_2 => cases he
  rename_i fv xs ts ho
  have hd := den_eval st fv
  have hv : (actOf st).eval fv = v ∧ args = evals st xs.toList := by
    split at he
    · rename_i l hfv
      cases he
      rw [hfv] at hd
      exact ⟨by rw [← hd]; rfl, rfl⟩
    · rename_i v' hfv
      cases he
      rw [hfv] at hd
      exact ⟨by rw [← hd]; rfl, rfl⟩
    · cases he
  obtain ⟨hv, rfl⟩ := hv
  simp only [wpListIn]
  have hw2 : yielded ops (withD ds (actOf st)).tmps = yielded ops (actOf st).tmps := rfl
  rw [hw2, if_pos hw]
  have harr : xs.map (actOf st).eval = (denL (evals st xs.toList)).toArray := by
    apply Array.ext'
    simp [denL_evals]
  refine ⟨fun _ _ => trivial, ?_⟩
  rw [Oper.semAt_eq _ _ _ (fun c hc => by rw [ho] at hc; cases hc), withD_eval]
  rcases hY _ _ _ _ hx with ⟨f, first, cap, hf, hok, hc⟩ | ⟨l, hl, hy⟩
  · subst hf
    unfold callOk at hok
    split at hok
    case h_2 => cases hok
    rename_i fn hfn
    simp only [Bool.and_eq_true, bne_iff_ne, ne_eq] at hok
    have hb : fn.body.isNone = false := by cases hfb : fn.body <;> simp_all
    have hres : (execOp (actOf st).eval o).run P w = .ok (.enter f (first ++ (denL (evals st xs.toList)).toArray ++ cap)) w := by
      simp [execOp, ho, resolve, hv, Deferred.ofValue, invoke, callFunc, hfn, hok.1, harr]
      intro hnone; rw [hnone] at hb; cases hb
    rw [hres]
    refine ⟨fun h => by simp [Fence.wide] at h, ?_⟩
    refine callsIn_of (Calls.mono (hc W F w hr) ?_) _
    rintro e w' ⟨h', rv, hp, rfl, hr'⟩
    have h3 := hN _ hp w' (by rw [heap_put]; exact hr')
    rw [actOf_put, withD_put] at h3
    exact h3
  · subst hl
    obtain ⟨fn, tmps, assign, body, hy, hR⟩ := hy W F w hr
    have hres : (execOp (actOf st).eval o).run P w = .ok (.round l fn tmps assign body) w := by
      simp [execOp, ho, resolve, hv, Deferred.ofValue, invoke, harr, hy]
    rw [hres]
    refine ⟨fun h => by simp [Fence.wide] at h, ?_⟩
    refine RoundIn.mono (F := Fence.wide) hR ?_
    rintro e w' ⟨h', rv, hp, rfl, hr'⟩
    have h3 := hN _ hp w' (by rw [heap_put]; exact hr')
    rw [actOf_put, withD_put] at h3
    exact h3

theorem sound_skipV {st : Sy} {o : Oper} {ops : Array Oper} {rest : List Oper} {w : World} {N : Sy → Prop} (hw : Region.wanted o (yielded ops (actOf st).tmps) = false) (hr : Rep W F st.heap w)
    (hx : N (st.put o.dst (.raw undef))) (hN : ∀ st', N st' → ∀ w', Rep W F st'.heap w' → wpListIn (Fr r) 0 P ops Q rest (withD ds (actOf st')) w') :
    wpListIn (Fr r) 0 P ops Q (o :: rest) (withD ds (actOf st)) w := by
  simp only [wpListIn]
  have hw2 : yielded ops (withD ds (actOf st)).tmps = yielded ops (actOf st).tmps := rfl
  rw [hw2, if_neg (by rw [hw]; decide)]
  refine ⟨fun _ _ => trivial, ?_⟩
  have h3 := hN _ hx w (by rw [heap_put]; exact hr)
  rw [actOf_put, withD_put] at h3
  exact h3

theorem sound_guardR (hC : AllOk P Cs) (hL : ∀ a w, ¬ Q .outgrown a w) {S : Prop} (hS : ¬ S) {st : Sy} {o : Oper} {ops : Array Oper} {rest : List Oper} {w : World} {N : Sy → Prop} (hr : Rep W F st.heap w)
    (hx : xguard P Cs ops st o N S) (hN : ∀ st', N st' → ∀ w', Rep W F st'.heap w' → wpListIn (Fr r) 0 P ops Q rest (withD ds (actOf st')) w') :
    wpListIn (Fr r) 0 P ops Q (o :: rest) (withD ds (actOf st)) w := by
  let Q1 : Exit → Act → World → Prop := fun e a w => a.defers = [] ∧ match e with
    | .normal => wpListIn (Fr r) 0 P ops Q rest (withD ds a) w
    | e => Q e (withD ds a) w
  have h1 : wpList P ops Q1 [o] (actOf st) w := sound_xguard (Q := Q1) hC S (fun st' h1 w' h2 => ⟨rfl, hN st' h1 w' h2⟩) hr hx (fun h => (hS h).elim) (fun _ _ _ h => (hS h).elim)
  simp only [wpList] at h1
  simp only [wpListIn]
  have hw : yielded ops (withD ds (actOf st)).tmps = yielded ops (actOf st).tmps := rfl
  rw [hw]
  split at h1
  · rename_i hwd
    rw [if_pos hwd]
    have hL1 : ¬ LetsOut Q1 := fun ⟨a, w, h⟩ => hL _ _ h.2
    have h1 := h1.resolve_right fun h => hL1 h.2
    refine Oper.wpIn_mono ?_ (lift_op (r := r) (ds := ds) (Q := Q1) (Q' := Q) (fun a' w' h => h.1) (fun e a' w' h => h.2) hL1 rfl h1)
    rintro a' w' ⟨a0, rfl, h2⟩
    exact h2.2
  · rename_i hwd
    rw [if_neg hwd]
    refine ⟨fun _ _ => trivial, ?_⟩
    rw [← withD_put]
    exact h1.2
theorem sound_xopY (hC : AllOk P Cs) (hY : YOk P Y) (hL : ∀ a w, ¬ Q .outgrown a w) {S : Prop} (hS : ¬ S) {st : Sy} {o : Oper} {ops : Array Oper} {l : List Oper} {w : World} {N : Sy → Prop} (hr : Rep W F st.heap w)
    (h : xopY P Cs Y ops st o N S) (hNN : ∀ st', N st' → ∀ w', Rep W F st'.heap w' → wpListIn (Fr r) 0 P ops Q l (withD ds (actOf st')) w') :
    wpListIn (Fr r) 0 P ops Q (o :: l) (withD ds (actOf st)) w := by
    simp only [xopY] at h
    split at h
    · rename_i v args he
      split at h
      · rename_i hg
        exact sound_value (Q := Q) (N := fun st' => N st') hY he (by simp [Region.wanted, hg]) hr h hNN
      · rename_i g want hg
        split at h
        case h_2 => exact (hS h).elim
        rename_i t ht
        split at h
        case h_2 => exact (hS h).elim
        rename_i b hb
        have hys : yielded ops (actOf st).tmps g = some b := by rw [yielded_slot ht, hb]; rfl
        have hwd : ∀ c : Bool, b = c → Region.wanted o (yielded ops (actOf st).tmps) = (c == want) := fun c hc => by
          simp only [Region.wanted, hg, hys, hc]
          cases c <;> cases want <;> rfl
        have same : ∀ c : Bool, b = c → ∀ h', actOf ({ tmps := setN st.tmps t (.bool c), heap := h' } : Sy) = actOf ({ tmps := st.tmps, heap := h' } : Sy) := fun c hc h' => actOf_same (st := ⟨st.tmps, h'⟩) t c (by rw [hb, hc])
        have putS : ∀ c : Bool, b = c → ∀ h' x, actOf ((({ tmps := setN st.tmps t (.bool c), heap := h' } : Sy)).put o.dst x) = actOf ((({ tmps := st.tmps, heap := h' } : Sy)).put o.dst x) := fun c hc h' x => by
          rw [actOf_put, actOf_put, same c hc]
        have hval : ∀ c : Bool, b = c → (c == want) = true → Y v args st.heap (fun h' r_1 => N (({ tmps := setN st.tmps t (.bool c), heap := h' } : Sy).put o.dst r_1)) → wpListIn (Fr r) 0 P ops (Q) (o :: l) (withD ds (actOf st)) w := fun c hc hcw hx =>
          sound_value (Q := Q) (N := fun st' => ∀ w', Rep W F st'.heap w' → wpListIn (Fr r) 0 P ops (Q) l (withD ds (actOf st')) w') (Y := fun v' a' h'' N' => v' = v ∧ a' = args ∧ h'' = st.heap ∧ ∀ h' x, N (({ tmps := setN st.tmps t (.bool c), heap := h' } : Sy).put o.dst x) → N' h' x)
            (fun v' a' h'' N' hh => by
              obtain ⟨rfl, rfl, rfl, hh⟩ := hh
              rcases hY _ _ _ _ hx with ⟨f, first, cap, q1, q2, q3⟩ | ⟨l', q1, q2⟩
              · exact .inl ⟨f, first, cap, q1, q2, fun W F w hr => Calls.mono (q3 W F w hr) fun e w' ⟨h', rv, p1, p2, p3⟩ => ⟨h', rv, hh h' rv p1, p2, p3⟩⟩
              · refine .inr ⟨l', q1, fun W F w hr => ?_⟩
                obtain ⟨fn, tmps, assign, body, y1, y2⟩ := q2 W F w hr
                exact ⟨fn, tmps, assign, body, y1, RoundIn.mono y2 fun e w' ⟨h', rv, p1, p2, p3⟩ => ⟨h', rv, hh h' rv p1, p2, p3⟩⟩)
            he (by rw [hwd c hc, hcw]) hr ⟨rfl, rfl, rfl, fun h' x hx w' hr' => by
              have := hNN _ hx w' (by rw [heap_put] at hr' ⊢; exact hr')
              rw [putS c hc] at this
              exact this⟩ (fun st' hh w' hr' => hh w' hr')
        have hskip : ∀ c : Bool, b = c → (c == want) = false → N (({ st with tmps := setN st.tmps t (.bool c) } : Sy).put o.dst (.raw undef)) → wpListIn (Fr r) 0 P ops (Q) (o :: l) (withD ds (actOf st)) w := fun c hc hcw hx =>
          sound_skipV (Q := Q) (N := fun st' => ∀ w', Rep W F st'.heap w' → wpListIn (Fr r) 0 P ops (Q) l (withD ds (actOf st')) w') (by rw [hwd c hc, hcw]) hr (fun w' hr' => by
              have := hNN _ hx w' (by rw [heap_put] at hr' ⊢; exact hr')
              rw [putS c hc st.heap] at this
              exact this) (fun st' hh w' hr' => hh w' hr')
        cases want <;> cases b <;> simp only at h
        · exact hval false rfl rfl h
        · exact hskip true rfl rfl h
        · exact hskip false rfl rfl h
        · exact hval true rfl rfl h
    · exact sound_guardR hC hL hS hr h hNN
theorem wpOpIn_of {c : Nat} {o : Oper} {ops : Array Oper} {K : Act → World → Prop} {a : Act} {w : World} (ho : ops[c]? = some o) (h : wpListIn (Fr r) 0 P ops (fun e a w => match e with | .normal => K a w | e => Q e a w) [o] a w) : wpOpIn (Fr r) 0 P ops Q c K a w := by
  simp only [wpListIn] at h
  unfold wpOpIn
  rw [ho]
  simp only
  split at h
  · rename_i hw
    rw [if_pos hw]
    refine ⟨h.1, ?_⟩
    have h := h.2
    generalize (Oper.semAt (Fr r).round a.eval o).run P w = res at *
    cases res with
    | ok x w' => cases x <;> simp only [Oper.uponIn] at h ⊢ <;> exact h
    | halt x w' => cases x <;> simp only [Oper.uponIn] at h ⊢ <;> exact h
  · rename_i hw
    rw [if_neg hw]
    exact h
end

structure Ends (r : Option Nat) (ds : List Deferred) (Q : Exit → Act → World → Prop) (W : World) (F : List Ch) (X : Code → Sy → Prop) (E : Sy → Prop) : Prop where
  e : ∀ st, E st → ∀ w, Rep W F st.heap w → Q .normal (withD ds (actOf st)) w
  ret : ∀ st, X .ret st → ∀ w, Rep W F st.heap w → Q .ret (withD ds (actOf st)) w
  exit : ∀ id st, X (.exit id) st → ∀ w, Rep W F st.heap w → Q (.exit id) (withD ds (actOf st)) w
  panic : ∀ c a w, a.defers = ds → ¬ Q (.panic c) a w
  out : ∀ a w, ¬ Q .outgrown a w

section
variable {r : Option Nat} {ds : List Deferred} {P : Program} {Cs : Tbl} {Y : YCtr} {kc : Bool} {ss : List Nat} {W : World} {F : List Ch} {Q : Exit → Act → World → Prop}
  {X : Code → Sy → Prop} {E : Sy → Prop} {K : List Frm → Sy → Prop}

theorem runR_sound (hK : ∀ k st, K k st → GR r ds P Q W F k st) (hC : AllOk P Cs) (hY : YOk P Y) (hm : P.follows .mixedOrders = true) (hE : Ends r ds Q W F X E) : ∀ (n : Nat) (k : List Frm) (st : Sy), runR P Cs Y kc ss K X E n k st → GR r ds P Q W F k st
  | 0, k, st, h => hK _ _ h
  | n + 1, [], st, h => fun w hr => hE.e st h w hr
  | n + 1, .code c :: k, st, h => by
    cases c with
    | skip => exact fun w hr => wpIn_skip (swpR_normal _ _ _ (runR_sound hK hC hY hm hE n k st h w hr))
    | label l => exact fun w hr => wpIn_label (swpR_normal _ _ _ (runR_sound hK hC hY hm hE n k st h w hr))
    | seq a b => exact fun w hr => wpIn_seq (runR_sound hK hC hY hm hE n _ st h w hr)
    | cond x a b =>
      cases x with
      | tmp t =>
        simp only [runR] at h
        split at h
        · rename_i b' hb
          intro w hr
          have hc : (withD ds (actOf st)).eval (.tmp t) = .bool b' := by
            rw [withD_eval, ← den_eval]; simp [Sy.eval, hb, den]
          cases b' with
          | true =>
            have h1 := runR_sound hK hC hY hm hE n _ _ h w hr
            rw [actOf_same t true hb] at h1
            exact wpIn_cond hc h1
          | false =>
            have h1 := runR_sound hK hC hY hm hE n _ _ h w hr
            rw [actOf_same t false hb] at h1
            exact wpIn_cond hc h1
        · exact hK _ _ h
      | _ => exact hK _ _ h
    | block id c => exact fun w hr => wpIn_block (runR_sound hK hC hY hm hE n _ st h w hr)
    | exit id =>
      simp only [runR] at h
      split at h
      · rename_i k' hk
        exact fun w hr => wpIn_exit (postR_exit id _ _ k k' hk (swpR_normal _ _ _ (runR_sound hK hC hY hm hE n k' st h w hr)))
      · rename_i hk
        exact fun w hr => wpIn_exit (postR_exit_none id _ _ k hk (hE.exit id st h w hr))
    | ret => exact fun w hr => wpIn_ret (postR_ret _ _ k (hE.ret _ h w hr))
    | region id ops dr =>
      simp only [runR] at h
      split at h
      · exact hK _ _ h
      · cases dr with
        | false => exact fun w hr => wpIn_region_list (runR_sound hK hC hY hm hE n (.ops ops ops.toList :: k) st h w hr)
        | true =>
          simp only at h
          split at h
          · rename_i hs
            by_cases hS : K (.code (.region id ops true) :: k) st
            · exact hK _ _ hS
            · intro w hr
              have hd : Rep W F st.heap w.drew := hr.drew
              let Q1 : Exit → Act → World → Prop := fun e a w => a.defers = [] ∧ postR r P Q k e (withD ds a) w
              have hL1 : ¬ LetsOut Q1 := fun ⟨a, w, h⟩ => hE.out _ _ ((postR_out k).1 h.2)
              have hP1 : ∀ c d v a w, Q1 (.panic c) (Act.put a d v) w → Q1 (.panic c) a w := fun c d v a w h => (hE.panic _ _ _ rfl ((postR_panic k).1 h.2)).elim
              have hN1 : ∀ st', runR P Cs Y kc ss K X E n k st' → ∀ w', Rep W F st'.heap w' → Q1 .normal (actOf st') w' := fun st' h1 w' h2 => ⟨rfl, swpR_normal _ _ _ (runR_sound hK hC hY hm hE n k st' h1 w' h2)⟩
              have hq : ∀ e a' w', Q1 e a' w' → a'.defers = [] ∧ postR r P Q k e (withD ds a') w' := fun e a' w' h => h
              split at h
              · rename_i c hvc
                refine wpIn_region_any hm (lift_X (r := r) (ds := ds) (Q := Q1) (fun ch a' w' h => h.2) hL1 ?_ _ _ _ _ (sound_xdrawX (W := W) (F := F) (Q := Q1) hC hs hP1 hS _ _ true st w.drew hd (fun _ => hd.pre (preH_pre _ _)) h))
                rintro n1 listed a w1 ⟨st1, o, rfl, hr1, ho, hx⟩
                refine wpOpIn_of ho (sound_xopY (Q := fun e a w => match e with | .normal => wpAnyIn (Fr r) 0 P .any ops (postR r P Q k) n1 (listed.setIfInBounds c true) a w | e => postR r P Q k e a w) hC hY (fun a w h => hE.out a w ((postR_out k).1 h)) hS hr1 hx fun st' hn w' hr' => ?_)
                refine wpListIn_nil (F := Fr r) (n := 0) (P := P) (ops := ops) ?_
                exact lift_any (r := r) (ds := ds) (Q := Q1) hq hL1 _ _ _ _ (wpAnyT.any _ _ _ _ (sound_xdraw (W := W) (F := F) (Q := Q1) hC hs hP1 hS hN1 _ _ false st' w' hr' (fun h => by cases h) hn))
              · exact wpIn_region_any hm (lift_any (r := r) (ds := ds) (Q := Q1) hq hL1 _ _ _ _ (wpAnyT.any _ _ _ _ (sound_xdraw (W := W) (F := F) (Q := Q1) hC hs hP1 hS hN1 _ _ true st w.drew hd (fun _ => hd.pre (preH_pre _ _)) h)))
          · exact hK _ _ h
    | loop c =>
      simp only [runR] at h
      split at h
      · exact fun w hr => wpIn_loop_rounds 50 (runR_sound hK hC hY hm hE n (.un c 50 :: k) st h w hr)
      · exact hK _ _ h
    | _ => exact hK _ _ h
  | n + 1, .blk _ :: k, st, h => fun w hr => swpR_normal _ _ _ (runR_sound hK hC hY hm hE n k st h w hr)
  | n + 1, .ops ops [] :: k, st, h => fun w hr => wpListIn_nil (F := Fr r) (n := 0) (P := P) (ops := ops) (swpR_normal _ _ _ (runR_sound hK hC hY hm hE n k st h w hr))
  | n + 1, .ops ops (o :: l) :: k, st, h => fun w hr => by
    simp only [runR] at h
    by_cases hS : K (.ops ops (o :: l) :: k) st
    · exact hK _ _ hS w hr
    · exact sound_xopY (Q := postR r P Q k) hC hY (fun a w h => hE.out a w ((postR_out k).1 h)) hS hr h fun st' h1 w' h2 => runR_sound hK hC hY hm hE n (.ops ops l :: k) st' h1 w' h2
  | n + 1, .loop J :: k, st, h => hK _ _ h
  | n + 1, .un c 0 :: k, st, h => hK _ _ h
  | n + 1, .un c (m + 1) :: k, st, h => fun w hr => runR_sound hK hC hY hm hE n (.code c :: .un c m :: k) st h w hr

theorem GR_eqv {k : List Frm} {st st' : Sy} (h : GR r ds P Q W F k st') (ht : denL st.tmps = denL st'.tmps) (hh : ∀ w, Rep W F st.heap w → Rep W F st'.heap w) : GR r ds P Q W F k st := fun w hr => by
  have := h w (hh w hr)
  unfold actOf at *
  rw [ht]; exact this

theorem GR_live {k : List Frm} {st : Sy} (n : Nat) (live : List (Nat × SV)) (hp : List Ent) (hlen : lenN st.tmps = n) (hlive : liveOk st.tmps live)
    (hheap : ∀ w, Rep W F st.heap w → Rep W F hp w) (h : ∀ u, GR r ds P Q W F k ⟨mkT u n 0 live, hp⟩) : GR r ds P Q W F k st := by
  refine GR_eqv (h fun t => den ((nth st.tmps t).getD (.raw undef))) ?_ hheap
  rw [lenN_eq] at hlen
  rw [mkT_eq _ st.tmps (fun _ => rfl) n 0 live (by omega) hlive]
  rfl

/-! ### Loops -/

def BackR (ds : List Deferred) {ι : Type u} (W : World) (F : List Ch) (n : Nat) (live : ι → List (Nat × SV)) (hp : ι → List Ent) (φ : ι → Prop) (μ : ι → Nat) (m : Nat) (a : Act) (w : World) : Prop :=
  ∃ i u, φ i ∧ μ i < m ∧ a = withD ds (actOf ⟨mkT u n 0 (live i), hp i⟩) ∧ Rep W F (hp i) w

theorem GR_loop {ι : Type u} {body : Code} {k : List Frm} {st : Sy} (n : Nat) (live : ι → List (Nat × SV)) (hp : ι → List Ent) (φ : ι → Prop) (μ : ι → Nat) (i0 : ι) (h0 : φ i0) (hlen : lenN st.tmps = n) (hlive : liveOk st.tmps (live i0))
    (hheap : ∀ w, Rep W F st.heap w → Rep W F (hp i0) w)
    (hround : ∀ i, φ i → ∀ u, GR r ds P Q W F (.code body :: .loop (BackR ds W F n live hp φ μ (μ i)) :: k) ⟨mkT u n 0 (live i), hp i⟩) : GR r ds P Q W F (.code (.loop body) :: k) st := by
  intro w hr
  refine wpIn_loop_ghost (fun m a w => BackR ds W F n live hp φ μ (m + 1) a w) (μ i0) ?_ ?_
  · refine ⟨i0, fun t => den ((nth st.tmps t).getD (.raw undef)), h0, by omega, ?_, hheap w hr⟩
    unfold actOf
    rw [lenN_eq] at hlen
    rw [mkT_eq _ st.tmps (fun _ => rfl) n 0 (live i0) (by omega) hlive]
    rfl
  · rintro m a w ⟨i, u, hi, hm, rfl, hr⟩
    refine Code.wpIn_mono ?_ (hround i hi u w hr)
    intro e a' w' hq
    cases e with
    | normal =>
      obtain ⟨i', u', hi', hm', ha, hr'⟩ := hq
      exact ⟨μ i', by omega, i', u', hi', by omega, ha, hr'⟩
    | _ => exact hq

theorem GR_back {ι : Type u} {k : List Frm} {st : Sy} {n : Nat} {live : ι → List (Nat × SV)} {hp : ι → List Ent} {φ : ι → Prop} {μ : ι → Nat} {m : Nat} (i : ι) (hi : φ i) (hm : μ i < m) (hlen : lenN st.tmps = n) (hlive : liveOk st.tmps (live i))
    (hheap : ∀ w, Rep W F st.heap w → Rep W F (hp i) w) : GR r ds P Q W F (.loop (BackR ds W F n live hp φ μ m) :: k) st := by
  intro w hr
  refine ⟨i, fun t => den ((nth st.tmps t).getD (.raw undef)), hi, hm, ?_, hheap w hr⟩
  unfold actOf
  rw [lenN_eq] at hlen
  rw [mkT_eq _ st.tmps (fun _ => rfl) n 0 (live i) (by omega) hlive]
  rfl

theorem GR_loopAt {st : Sy} {ι : Type u} (Js : List (Act → World → Prop)) (c : Code) (l : List Nat) (n : Nat) (live : ι → List (Nat × SV)) (hp : ι → List Ent) (φ : ι → Prop) (μ : ι → Nat) (i0 : ι)
    (e1 : frm Js c l [] = .code (.loop (codeAt c (l ++ [0]))) :: (frm Js c l []).tail) (e2 : ∀ J, frm (Js ++ [J]) c (l ++ [0]) [] = .code (codeAt c (l ++ [0])) :: .loop J :: (frm Js c l []).tail)
    (h0 : φ i0) (hlen : lenN st.tmps = n) (hlive : liveOk st.tmps (live i0)) (hheap : ∀ w, Rep W F st.heap w → Rep W F (hp i0) w)
    (hround : ∀ i, φ i → ∀ u, GR r ds P Q W F (frm (Js ++ [BackR ds W F n live hp φ μ (μ i)]) c (l ++ [0]) []) ⟨mkT u n 0 (live i), hp i⟩) : GR r ds P Q W F (frm Js c l []) st := by
  rw [e1]
  refine GR_loop n live hp φ μ i0 h0 hlen hlive hheap fun i hi u => ?_
  have := hround i hi u
  rw [e2] at this
  exact this
end

/-! ### Functions -/

def endR (P : Program) (fn : Func) (W : World) (F : List Ch) (Post : List Ent → SV → Prop) : Exit → Act → World → Prop :=
  bodyPostM Fence.wide 0 P fn fun e w' => ∃ h' r, Post h' r ∧ e = .returned (den r) ∧ Rep W F h' w'

theorem Spec.of_GR {P : Program} {f : FuncId} {hs : List Ent} {args : List SV} {Post : List Ent → SV → Prop} {fn : Func} {c : Code} (n : Nat) (hf : P.funcs[f]? = some fn) (hb : fn.body = some c) (hn : fn.ntmps = n) (hl : lenN args ≤ n)
    (hg : ∀ W F, GR none [] P (endR P fn W F Post) W F [.code c] ⟨padTo n args, hs⟩) : Spec P f hs args Post := by
  intro W F w hr
  refine (callsIn_wide (n := 0)).1 (callsIn_of_wp_marks hf hb trivial ?_)
  have h1 := hg W F w hr
  rw [lenN_eq] at hl
  have : (actOf ⟨padTo n args, hs⟩) = ⟨(denL args).toArray ++ Array.replicate (fn.ntmps - (denL args).toArray.size) undef, []⟩ := by
    unfold actOf
    congr 1
    rw [padTo_eq n args hl, hn]
    apply Array.ext'
    simp [length_denL]
  rw [← this]
  exact h1

theorem results_of {P : Program} {fn : Func} {W w : World} {F : List Ch} {st : Sy} {Post : List Ent → SV → Prop} (h : retP P fn.results.toList Post st) (hr : Rep W F st.heap w) :
    ∃ v, (results fn (actOf st).tmps).run P w = .ok v w ∧ ∃ h' r, Post h' r ∧ Ending.returned v = .returned (den r) ∧ Rep W F h' w := by
  obtain ⟨_, v, h1, h2⟩ := Fin_retP (W := W) (F := F) (fn := fn) st h w hr
  exact ⟨v, h1, h2⟩

def endX (P : Program) (rs : List ResultVar) (Post : List Ent → SV → Prop) : Code → Sy → Prop
  | .ret, st => retP P rs Post st
  | _, _ => False

theorem Ends.fn {P : Program} {fn : Func} {W : World} {F : List Ch} {Post : List Ent → SV → Prop} : Ends none [] (endR P fn W F Post) W F (endX P fn.results.toList Post) (retP P fn.results.toList Post) where
  e := fun st h w hr => results_of (fn := fn) h hr
  ret := fun st h w hr => results_of (fn := fn) h hr
  exit := fun _ _ h => h.elim
  panic := fun c a w hd h => by
    have h : LeavesInM Fence.wide 0 P fn a.tmps (fun e w' => ∃ h' r, Post h' r ∧ e = .returned (den r) ∧ Rep W F h' w') a.defers (.panicking c) w := h
    rw [hd] at h
    obtain ⟨_, _, _, h, _⟩ := h
    cases h
  out := fun a w h => by obtain ⟨_, _, _, h, _⟩ := h; cases h

def markOf (D : Nat) : Deferred := { target := .collected D, args := #[] }
def dent (D : Nat) (o : Bool) : Ent := ⟨.blk D, .raw (.deferred (match o with | true => some [] | false => none))⟩

def retM (P : Program) (rs : List ResultVar) (D p : Nat) (Post : List Ent → SV → Prop) (st : Sy) : Prop :=
  nth st.heap p = some (dent D true) ∧ retP P rs Post { st with heap := setN st.heap p (dent D false) }
def endMX (P : Program) (rs : List ResultVar) (D p : Nat) (Post : List Ent → SV → Prop) : Code → Sy → Prop
  | .ret, st => retM P rs D p Post st
  | _, _ => False

theorem H.putObj {W w : World} {L : List Ch} {b : Nat} {o : Obj} (o' : Obj) (h : H W w ([(b, o)] :: L)) : H W (w.putObj b o') ([(b, o')] :: L) := by
  refine h.set .here (St.mk' rfl rfl rfl (by simp) (Nat.le_refl _)) fun k => ?_
  have hlt : b < w.heap.size := (Array.getElem?_eq_some_iff.1 (h.heap .here)).1
  by_cases hk : k = b
  · subst hk; rw [if_pos rfl]; exact World.putObj_heap_same hlt
  · rw [if_neg hk]; exact World.putObj_heap_other hk

theorem Rep.putObj {W w : World} {F : List Ch} {h : List Ent} {p b : Nat} {o : Obj} (o' : Obj) (hr : Rep W F h w) (hp : nth h p = some ⟨.blk b, .raw o⟩) :
    w.heap[b]? = some o ∧ Rep W F (setN h p ⟨.blk b, .raw o'⟩) (w.putObj b o') := by
  obtain ⟨c, L, hc, hH, hset⟩ := hr.get hp
  have hc : c = [(b, o)] := hc
  subst hc
  exact ⟨hH.heap .here, hset ⟨.blk b, .raw o'⟩ [(b, o')] _ rfl (hH.putObj o')⟩

theorem Ends.fnM {P : Program} {fn : Func} {W : World} {F : List Ch} {Post : List Ent → SV → Prop} (D p : Nat) : Ends none [markOf D] (endR P fn W F Post) W F (endMX P fn.results.toList D p Post) (retM P fn.results.toList D p Post) := by
  have key : ∀ st, retM P fn.results.toList D p Post st → ∀ w, Rep W F st.heap w → LeavesInM Fence.wide 0 P fn (actOf st).tmps (fun e w' => ∃ h' r, Post h' r ∧ e = .returned (den r) ∧ Rep W F h' w') [markOf D] .returning w := by
    rintro st ⟨hp, h⟩ w hr
    obtain ⟨hb, hr'⟩ := hr.putObj (.deferred none) hp
    refine ⟨by simp, .inl ⟨D, _, rfl, run_takeDeferred hb, ?_⟩⟩
    exact results_of (fn := fn) (st := ⟨st.tmps, setN st.heap p (dent D false)⟩) h hr'
  refine ⟨key, key, fun _ _ h => h.elim, fun c a w hd h => ?_, fun a w h => by obtain ⟨_, _, _, h, _⟩ := h; cases h⟩
  have h : LeavesInM Fence.wide 0 P fn a.tmps (fun e w' => ∃ h' r, Post h' r ∧ e = .returned (den r) ∧ Rep W F h' w') a.defers (.panicking c) w := h
  rw [hd] at h
  rcases h.2 with ⟨_, _, _, _, h⟩ | ⟨_, _, _, _, _, h, _⟩
  · obtain ⟨_, _, _, h, _⟩ := h
    cases h
  · cases h

/-! ### The statement -/

def lp (l : Nat) (rc : Loop) (s : LoopState) (j : Option Code) : Ent := ⟨.blk l, .raw (.loop { rc with state := s, pending := j })⟩

theorem Spec.pre {P : Program} {f : FuncId} {hs hs' : List Ent} {args args' : List SV} {Post : List Ent → SV → Prop} (hh : ∀ W F w, Rep W F hs w → Rep W F hs' w) (ha : denL args = denL args') (h : Spec P f hs' args' Post) : Spec P f hs args Post := by
  intro W F w hr
  rw [ha]
  exact h W F w (hh W F w hr)

def up (N : List Ent → SV → Prop) (h : List Ent) (r : SV) : Prop := ∃ h' r', (∀ W F w, Rep W F h w → Rep W F h' w) ∧ den r = den r' ∧ N h' r'
theorem Spec.up {P : Program} {f : FuncId} {hs : List Ent} {args : List SV} {N : List Ent → SV → Prop} (h : Spec P f hs args (up N)) : Spec P f hs args N := by
  intro W F w hr
  refine Calls.mono (h W F w hr) ?_
  rintro e w' ⟨h', r, ⟨h'', r', hi, hd, hn⟩, rfl, hr'⟩
  exact ⟨h'', r', hn, by rw [hd], hi _ _ _ hr'⟩
theorem YSpec.up {P : Program} {l : Nat} {hs : List Ent} {args : List SV} {N : List Ent → SV → Prop} (h : YSpec P l hs args (up N)) : YSpec P l hs args N := by
  intro W F w hr
  obtain ⟨fn, tmps, assign, body, h1, h2⟩ := h W F w hr
  refine ⟨fn, tmps, assign, body, h1, RoundIn.mono h2 ?_⟩
  rintro e w' ⟨h', r, ⟨h'', r', hi, hd, hn⟩, rfl, hr'⟩
  exact ⟨h'', r', hn, by rw [hd], hi _ _ _ hr'⟩

def rfG : Code → Operand | .rangeFunc g _ _ _ => g | _ => .tmp 0
def rfP : Code → Array Tmp | .rangeFunc _ p _ _ => p | _ => #[]
def rfA : Code → Code | .rangeFunc _ _ a _ => a | _ => .skip
def rfB : Code → Code | .rangeFunc _ _ _ b => b | _ => .skip

def setMany : List SV → List Nat → List SV → List SV
  | T, p :: ps, a :: as1 => setMany (setN T p a) ps as1
  | T, _, _ => T
theorem setMany_list : ∀ (ps : List Nat) (args T : List SV), (ps.zip (denL args)).foldl (fun tmps (x : Nat × Value) => tmps.setIfInBounds x.1 x.2) (denL T).toArray = (denL (setMany T ps args)).toArray
  | [], args, T => by cases args <;> simp [setMany]
  | p :: ps, [], T => by simp [setMany, denL]
  | p :: ps, a :: as1, T => by
    have ih := setMany_list ps as1 (setN T p a)
    simp only [setMany]
    rw [← ih]
    simp only [denL, List.zip_cons_cons, List.foldl_cons]
    congr 1
    simp [denL_eq, setN_eq, List.map_set]
theorem setMany_eq (ps : List Nat) (args T : List SV) : (ps.toArray.zip (denL args).toArray).foldl (fun tmps (x : Nat × Value) => tmps.setIfInBounds x.1 x.2) (denL T).toArray = (denL (setMany T ps args)).toArray := by
  rw [← setMany_list, List.zip_toArray, List.foldl_toArray]

theorem GR_range {P : Program} {Q : Exit → Act → World → Prop} {W : World} {F : List Ch} {st : Sy} {k : List Frm} {g : Operand} {ps : Array Tmp} {assign body : Code} {f : FuncId} {first captured : List SV}
    (hg : st.eval g = .func (.func f) first captured) (hok : callOk P f = true)
    (h : ∀ (D l : Nat) (rc : Loop), rc.tmps = (denL st.tmps).toArray → rc.params = ps → rc.assign = assign → rc.body = body →
      ∃ Post, Spec P f (snoc (snoc st.heap (dent D true)) (lp l rc .ready none)) (appS first (.func (.yield l) [] [] :: captured)) Post ∧
        ∀ h' v, Post h' v → ∃ p s j, s ≠ .busy ∧ nth h' p = some (lp l rc s j) ∧ GR none [markOf D] P Q W F (match j with | none => k | some c => .code c :: k) ⟨st.tmps, setN h' p (lp l rc .exhausted j)⟩) :
    GR none [] P Q W F (.code (.rangeFunc g ps assign body) :: k) st := by
  intro w hr
  refine wpIn_rangeFunc fun fn _ => ?_
  obtain ⟨rc, hrc⟩ : ∃ rc : Loop, rc = { state := .ready, pending := none, fn, tmps := (denL st.tmps).toArray, params := ps, assign, body, defers := w.heap.size } := ⟨_, rfl⟩
  obtain ⟨Post, hsp, hpost⟩ := h w.heap.size (w.heap.size + 1) rc (by rw [hrc]) (by rw [hrc]) (by rw [hrc]) (by rw [hrc])
  have h1 := den_eval st g
  rw [hg] at h1
  have hr1 : Rep W F (snoc (snoc st.heap (dent w.heap.size true)) (lp (w.heap.size + 1) rc .ready none)) ((w.alloc (.deferred (some []))).alloc (.loop rc)) := by
    have a1 := hr.new (e := dent w.heap.size true) (w' := w.alloc (.deferred (some []))) (c := [(w.heap.size, .deferred (some []))]) rfl (fun L hL => hL.alloc _)
    have a2 := a1.new (e := ⟨.blk (w.alloc (.deferred (some []))).heap.size, .raw (.loop rc)⟩) (w' := (w.alloc (.deferred (some []))).alloc (.loop rc)) (c := [((w.alloc (.deferred (some []))).heap.size, .loop rc)]) rfl (fun L hL => hL.alloc _)
    rw [World.size_alloc] at a2
    have e : lp (w.heap.size + 1) rc .ready none = ⟨.blk (w.heap.size + 1), .raw (.loop rc)⟩ := by rw [hrc]; rfl
    rw [e]; exact a2
  have hok' : ∃ fn', P.funcs[f]? = some fn' ∧ ¬ fn'.name = "runtime.NumGoroutine" ∧ fn'.body.isNone = false := by
    unfold callOk at hok
    split at hok
    · rename_i fn' hfn
      simp only [Bool.and_eq_true, bne_iff_ne, ne_eq] at hok
      exact ⟨fn', hfn, hok.1, by cases hfb : fn'.body <;> simp_all⟩
    · cases hok
  obtain ⟨fn', hfn', hn1, hn2⟩ := hok'
  refine ⟨w.heap.size + 1, [markOf w.heap.size], (w.alloc (.deferred (some []))).alloc (.loop rc), { target := .fn (.func f) (denL captured).toArray, args := (denL first).toArray ++ #[.func (.yield (w.heap.size + 1)) #[] #[]] }, (w.alloc (.deferred (some []))).alloc (.loop rc), f,
    ((denL first).toArray ++ #[.func (.yield (w.heap.size + 1)) #[] #[]]) ++ (denL captured).toArray, (w.alloc (.deferred (some []))).alloc (.loop rc), ?_, ?_, fun _ _ => trivial, ?_, fun h => by simp [Fence.wide] at h, ?_⟩
  · rw [hrc]; exact run_enterLoop_outer _ _ _ _ _
  · have h2 : (withD [] (actOf st)).eval g = .func (.func f) (denL first).toArray (denL captured).toArray := by rw [withD_eval, ← h1]; rfl
    simp only [resolve, h2, Deferred.ofValue]
    simp [Act.eval]
  · simp [invoke, callFunc, hfn', hn1]
    intro hnone; rw [hnone] at hn2; cases hn2
  · refine callsIn_of (Calls.mono (R := fun e w' => ∃ h' r, Post h' r ∧ e = .returned (den r) ∧ Rep W F h' w') ?_ ?_) _
    · have := hsp W F _ hr1
      have harr : (denL (appS first (.func (.yield (w.heap.size + 1)) [] [] :: captured))).toArray = ((denL first).toArray ++ #[.func (.yield (w.heap.size + 1)) #[] #[]]) ++ (denL captured).toArray := by
        apply Array.ext'
        simp [denL_appS, denL, den]
      rw [harr] at this
      exact this
    · rintro e w3 ⟨h', v, hp, rfl, hr3⟩
      obtain ⟨p, s, j, hs, hpn, hgr⟩ := hpost h' v hp
      obtain ⟨hb, hr4⟩ := hr3.putObj (.loop { rc with state := .exhausted, pending := j }) hpn
      refine ⟨j, _, run_endLoop hb hs, ?_⟩
      have h5 := hgr _ hr4
      cases j with
      | none => exact swpR_normal _ _ _ h5
      | some c => exact h5

theorem GR_rangeAt {P : Program} {Q : Exit → Act → World → Prop} {W : World} {F : List Ch} {st : Sy} (Js : List (Act → World → Prop)) (c : Code) (p : List Nat) {f : FuncId} {first captured : List SV}
    (e1 : frm Js c p [] = .code (.rangeFunc (rfG (codeAt c p)) (rfP (codeAt c p)) (rfA (codeAt c p)) (rfB (codeAt c p))) :: (frm Js c p []).tail)
    (hg : st.eval (rfG (codeAt c p)) = .func (.func f) first captured) (hok : callOk P f = true)
    (h : ∀ (D l : Nat) (rc : Loop), rc.tmps = (denL st.tmps).toArray → rc.params = rfP (codeAt c p) → rc.assign = rfA (codeAt c p) → rc.body = rfB (codeAt c p) →
      ∃ Post, Spec P f (snoc (snoc st.heap (dent D true)) (lp l rc .ready none)) (appS first (.func (.yield l) [] [] :: captured)) Post ∧
        ∀ h' v, Post h' v → ∃ q s j, s ≠ .busy ∧ nth h' q = some (lp l rc s j) ∧ GR none [markOf D] P Q W F (match j with | none => (frm Js c p []).tail | some c' => .code c' :: (frm Js c p []).tail) ⟨st.tmps, setN h' q (lp l rc .exhausted j)⟩) :
    GR none [] P Q W F (frm Js c p []) st := by
  rw [e1]
  exact GR_range hg hok h

theorem YSpec.of_GR {P : Program} {l p : Nat} {rc : Loop} {j : Option Code} {hs : List Ent} {args T0 T : List SV} {ps : List Nat} {asg bdy : Code} {Post : List Ent → SV → Prop} (hp : nth hs p = some (lp l rc .ready j)) (hrt : rc.tmps = (denL T0).toArray) (hrp : rc.params = ps.toArray) (hra : rc.assign = asg) (hrb : rc.body = bdy) (hps : lenN ps = lenN args)
    (hT : setMany T0 ps args = T)
    (h : ∀ W F, GR (some l) [] P (Exit.then (fun a w => ∃ st, nth st.heap p = some (lp l rc .ready j) ∧ a = withD [] (actOf st) ∧ Rep W F st.heap w ∧
        GR (some l) [] P (roundPost P l fun e w' => ∃ h' r, Post h' r ∧ e = .returned (den r) ∧ Rep W F h' w') W F [.code bdy] ⟨st.tmps, setN st.heap p (lp l rc .busy j)⟩) (fun _ _ _ => False)) W F [.code asg] ⟨T, hs⟩) :
    YSpec P l hs args Post := by
  subst hra hrb hT
  intro W F w hr
  obtain ⟨hb, _⟩ := hr.putObj (.loop { rc with state := .busy, pending := j }) hp
  have hy := run_yield (P := P) (args := (denL args).toArray) hb (by rw [List.size_toArray, length_denL, ← lenN_eq, hrp, List.size_toArray, ← lenN_eq, hps])
  refine ⟨_, _, _, _, hy, roundIn_of_wpIn (F := Fence.wide) trivial ?_⟩
  show Code.wpIn (Fr (some l)) 0 P rc.assign _ _ _
  have h1 := h W F w hr
  have e : ({ tmps := (rc.params.zip (denL args).toArray).foldl (fun tmps (x : Tmp × Value) => tmps.setIfInBounds x.1 x.2) rc.tmps, defers := [] } : Act) = withD [] (actOf ⟨setMany T0 ps args, hs⟩) := by
    rw [hrt, hrp, setMany_eq]; rfl
  rw [e]
  refine Code.wpIn_mono ?_ h1
  intro e a w1 h2
  cases e with
  | normal =>
    obtain ⟨st, hp1, rfl, hr1, h3⟩ := h2
    obtain ⟨hb1, hr2⟩ := hr1.putObj (.loop { rc with state := .busy, pending := j }) hp1
    exact ⟨_, run_beginRound hb1 rfl, h3 _ hr2⟩
  | _ => exact h2

theorem Ends.assign {l p : Nat} {rc : Loop} {j : Option Code} {W : World} {F : List Ch} {G : Sy → Prop} : Ends (some l) [] (Exit.then (fun a w => ∃ st, nth st.heap p = some (lp l rc .ready j) ∧ a = withD [] (actOf st) ∧ Rep W F st.heap w ∧ G st) (fun _ _ _ => False)) W F
    (fun _ _ => False) (fun st => nth st.heap p = some (lp l rc .ready j) ∧ G st) where
  e := fun st h w hr => ⟨st, h.1, rfl, hr, h.2⟩
  ret := fun _ h => h.elim
  exit := fun _ _ h => h.elim
  panic := fun _ _ _ _ h => h
  out := fun _ _ h => h

def roundE (l p : Nat) (rc : Loop) (j : Option Code) (Post : List Ent → SV → Prop) (st : Sy) : Prop :=
  nth st.heap p = some (lp l rc .busy j) ∧ Post (setN st.heap p (lp l rc .ready none)) (.bool true)
def roundX (l p : Nat) (rc : Loop) (j : Option Code) (Post : List Ent → SV → Prop) (c : Code) (st : Sy) : Prop :=
  nth st.heap p = some (lp l rc .busy j) ∧ Post (setN st.heap p (lp l rc .done (some c))) (.bool false)

theorem Ends.round {P : Program} {l p : Nat} {rc : Loop} {j : Option Code} {W : World} {F : List Ch} {Post : List Ent → SV → Prop} : Ends (some l) [] (roundPost P l fun e w' => ∃ h' r, Post h' r ∧ e = .returned (den r) ∧ Rep W F h' w') W F
    (roundX l p rc j Post) (roundE l p rc j Post) where
  e := fun st h w hr => by
    obtain ⟨hb, hr1⟩ := hr.putObj (.loop { rc with state := .ready, pending := none }) h.1
    exact ⟨_, _, run_endRound none hb, _, _, h.2, rfl, hr1⟩
  ret := fun st h w hr => by
    obtain ⟨hb, hr1⟩ := hr.putObj (.loop { rc with state := .done, pending := some .ret }) h.1
    exact ⟨_, _, run_endRound (some .ret) hb, _, _, h.2, rfl, hr1⟩
  exit := fun id st h w hr => by
    obtain ⟨hb, hr1⟩ := hr.putObj (.loop { rc with state := .done, pending := some (.exit id) }) h.1
    exact ⟨_, _, run_endRound (some (.exit id)) hb, _, _, h.2, rfl, hr1⟩
  panic := fun _ _ _ _ h => h
  out := fun _ _ h => h

end Go.Proofs.Ytkcmgcoppecfpaa

