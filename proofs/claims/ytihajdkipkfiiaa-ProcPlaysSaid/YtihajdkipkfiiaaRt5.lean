/- The document's table: Reap. -/
import Derived.Test.YtihajdkipkfiiaaRt4
namespace Go.Proofs.Ytihajdkipkfiiaa
open Go Go.RowKit
set_option linter.unusedVariables false
set_option linter.unusedSimpArgs false
set_option linter.unnecessarySimpa false
set_option maxHeartbeats 0

def deadB (parent : Int) (r : PR) : Bool := r.zombie && r.parent == parent
theorem rtReap_spec {t : PT} (ho : pOk t) (b : Nat) (ao : Option Addr) (cap : Nat) (parent : Int) : Spec Try.prog 43 [⟨.blk b, .cells [.vec 1 ao (rL t).length cap, .int .i64 t.room, .int .i64 t.last] 152⟩, ⟨.sl ao cap, .vecL 149 8 encR (rL t) PR.zero⟩] [.ptr 0 b 0, .int .i64 parent] (fun h' r => ∃ ao' cap', h' = rtE ⟨(pReap t parent).1, ao', cap'⟩ b ∧ r = .tuple [.agg (encP6 (pReap t parent).2.1), .int .i64 (pReap t parent).2.2]) := by
  refine Spec.up ?_
  refine Spec.of_G 53 Try.func43 (c := bodyOf Try.f43) (by kernel_rfl) (by kernel_rfl) (Nat.le_of_ble_eq_true rfl) fun W F => ?_
  refine G_run (kc := false) (ss := []) (Cs := []) trivial hmP 900 ?_
  rw [rt_reap]
  refine fun b1 => ?_
  have hlen : (rL t).length ≤ 1000000 := by rw [rL_len]; exact ho.len
  refine G_loopAt (ι := Nat) [] (bodyOf Try.f43) [1, 0, 1, 0] 53 (fun i => [(0, .ptr 0 b 0), (1, .int .i64 parent), (4, .ptr 2 b1 0), (5, .int .i64 0), (6, .int .i64 (i : Int))]) (fun _ => [⟨.blk b, .cells [.vec 1 ao (rL t).length cap, .int .i64 t.room, .int .i64 t.last] 152⟩, ⟨.sl ao cap, .vecL 149 8 encR (rL t) PR.zero⟩, ⟨.blk b1, .cells [.int .i64 0, .int .i64 0, .str ⟨#[]⟩, .bool false, .int .i64 0, .str ⟨#[]⟩] 45⟩]) (fun i => i ≤ (rL t).length ∧ ∀ r ∈ (rL t).take i, deadB parent r = false) (fun i => (rL t).length - i) 0 (by kernel_rfl) (fun J => by kernel_rfl) ⟨Nat.zero_le _, by simp⟩ rfl ⟨rfl, rfl, rfl, rfl, rfl, trivial⟩ (fun w hw => hw) ?_
  rintro i ⟨hi, hv⟩ u
  try dsimp only at hi hv ⊢
  simp only [List.nil_append, List.cons_append]
  refine G_vec (l := 1) rfl fun hcap _ => ?_
  refine G_run (kc := false) (ss := []) (Cs := []) trivial hmP 900 ?_
  rw [rt_reap1]
  have hdead : deadOf t parent = t.ps.find? fun x => deadB parent x.2 := rfl
  cases hlt : decide ((i : Int) < ((rL t).length : Int)) with
  | false =>
    simp only [decide_eq_false_iff_not] at hlt
    rw [List.take_of_length_le (by omega)] at hv
    have hn : deadOf t parent = none := by
      rw [hdead, List.find?_eq_none]
      intro x hx
      have := hv x.2 (List.mem_map.2 ⟨x, hx, rfl⟩)
      rw [this]; simp
    have hsp : pReap t parent = (t, PR.zero, 80) := by simp only [pReap, hn]
    have fin : ∀ h', (∀ W F w, Rep W F h' w → Rep W F (rtE ⟨t, ao, cap⟩ b) w) → up (fun h' r => ∃ ao' cap', h' = rtE ⟨(pReap t parent).1, ao', cap'⟩ b ∧ r = .tuple [.agg (encP6 (pReap t parent).2.1), .int .i64 (pReap t parent).2.2]) h' (.tuple [.agg (encP6 PR.zero), .int .i64 80]) := fun h' hh => by
      rw [hsp]; exact ⟨rtE ⟨t, ao, cap⟩ b, _, hh, rfl, ao, cap, rfl, rfl⟩
    repeat' first
      | exact rfl
      | exact fin _ fun W F w hr => Rep.dropR (h := rtE ⟨t, ao, cap⟩ b) hr
      | apply And.intro
      | (show _ ≤ _; omega)
      | (show _ < _; omega)
      | fail
  | true =>
    simp only [decide_eq_true_eq] at hlt
    have hi2 : i < (rL t).length := by omega
    have hip : i < t.ps.length := by rw [← rL_len]; exact hi2
    have hget : (rL t).getD i (PR.mk (0 : Int) (0 : Int) (ByteArray.mk #[]) false (0 : Int) (ByteArray.mk #[]) false false) = t.ps[i].2 := by rw [getD_ltR _ _ _ hi2]; simp [rL]
    have w1 : IntKind.wrap .i64 ((i : Int) + 1) = ((i + 1 : Nat) : Int) := IntWalk.i64_in _ (by omega)
    rw [Int.toNat_natCast, hget, w1, Int.toNat_natCast]
    have hsplit : t.ps = t.ps.take i ++ t.ps[i] :: t.ps.drop (i + 1) := by rw [List.getElem_cons_drop, List.take_append_drop]
    have next : deadB parent t.ps[i].2 = false → ∀ r ∈ (rL t).take (i + 1), deadB parent r = false := fun h r hr => by
      rw [List.take_succ_eq_append_getElem hi2] at hr
      rcases List.mem_append.1 hr with hr | hr
      · exact hv r hr
      · simp only [List.mem_singleton] at hr
        subst hr
        rw [← getD_ltR _ (PR.mk (0 : Int) (0 : Int) (ByteArray.mk #[]) false (0 : Int) (ByteArray.mk #[]) false false) _ hi2, hget]
        exact h
    have back : deadB parent t.ps[i].2 = false → ∀ (tm : List SV) (x : List Ent), lenN tm = 53 → liveOk tm [(0, .ptr 0 b 0), (1, .int .i64 parent), (4, .ptr 2 b1 0), (5, .int .i64 0), (6, .int .i64 (((i + 1 : Nat) : Int) : Int))] → G Try.prog (endQ Try.prog Try.f43 W F (up fun h' r => ∃ ao' cap', h' = rtE ⟨(pReap t parent).1, ao', cap'⟩ b ∧ r = .tuple [.agg (encP6 (pReap t parent).2.1), .int .i64 (pReap t parent).2.2])) W F (.loop (Back W F 53 (fun i : Nat => [(0, .ptr 0 b 0), (1, .int .i64 parent), (4, .ptr 2 b1 0), (5, .int .i64 0), (6, .int .i64 (i : Int))]) (fun _ => [⟨.blk b, .cells [.vec 1 ao (rL t).length cap, .int .i64 t.room, .int .i64 t.last] 152⟩, ⟨.sl ao cap, .vecL 149 8 encR (rL t) PR.zero⟩, ⟨.blk b1, .cells [.int .i64 0, .int .i64 0, .str ⟨#[]⟩, .bool false, .int .i64 0, .str ⟨#[]⟩] 45⟩]) (fun i => i ≤ (rL t).length ∧ ∀ r ∈ (rL t).take i, deadB parent r = false) (fun i => (rL t).length - i) ((rL t).length - i)) :: .blk 0 :: frm [] (bodyOf Try.f43) [1, 1] []) ⟨tm, [⟨.blk b, .cells [.vec 1 ao (rL t).length cap, .int .i64 t.room, .int .i64 t.last] 152⟩, ⟨.sl ao cap, .vecL 149 8 encR (rL t) PR.zero⟩, ⟨.blk b1, .cells [.int .i64 0, .int .i64 0, .str ⟨#[]⟩, .bool false, .int .i64 0, .str ⟨#[]⟩] 45⟩] ++ x⟩ := fun h tm x g1 g2 =>
      G_back (i + 1) ⟨by omega, next h⟩ (by omega) g1 g2 (fun w hw => Rep.dropR hw)
    (repeat first | refine And.intro rfl ?_ | refine And.intro ⟨rfl, rfl, rfl, by omega, by omega⟩ ?_ | refine And.intro ⟨rfl, rfl, rfl, by omega⟩ ?_ | refine And.intro ⟨rfl, rfl, rfl, by omega, rfl⟩ ?_)
    refine fun bx => ?_
    (repeat first | refine And.intro rfl ?_ | refine And.intro ⟨rfl, rfl, rfl, by omega, by omega⟩ ?_ | refine And.intro ⟨rfl, rfl, rfl, by omega⟩ ?_ | refine And.intro ⟨rfl, rfl, rfl, by omega, rfl⟩ ?_)
    cases hz : t.ps[i].2.zombie with
    | false => exact back (by simp [deadB, hz]) _ [_] rfl ⟨rfl, rfl, rfl, rfl, rfl, trivial⟩
    | true =>
      try refine ⟨rfl, ?_⟩
      cases hpp : t.ps[i].2.parent == parent with
      | false => exact back (by simp [deadB, hpp]) _ [_] rfl ⟨rfl, rfl, rfl, rfl, rfl, trivial⟩
      | true =>
        have hd1 : deadOf t parent = some t.ps[i] := by
          rw [hdead, List.find?_eq_some_iff_append]
          refine ⟨by simp [deadB, hz, hpp], t.ps.take i, t.ps.drop (i + 1), hsplit, fun y hy => ?_⟩
          have := hv y.2 (by
            have e : (rL t).take i = (t.ps.take i).map (·.2) := by simp [rL]
            rw [e]
            exact List.mem_map.2 ⟨y, hy, rfl⟩)
          simp [this]
        have hfil : (t.ps.filter fun y => !(y.2.pid == t.ps[i].2.pid)) = t.ps.take i ++ t.ps.drop (i + 1) := by
          have ha := ho.asc
          have n1 : ∀ y ∈ t.ps.take i, y.2.pid < t.ps[i].2.pid := fun y hy => by
            rw [hsplit, List.pairwise_append] at ha
            exact ha.2.2 y hy _ List.mem_cons_self
          have n2 : ∀ y ∈ t.ps.drop (i + 1), t.ps[i].2.pid < y.2.pid := fun y hy => by
            rw [hsplit, List.pairwise_append, List.pairwise_cons] at ha
            exact ha.2.1.1 y hy
          have key : ∀ p : Int, t.ps[i].2.pid = p → (t.ps.filter fun y => !(y.2.pid == p)) = t.ps.take i ++ t.ps.drop (i + 1) := fun p hp => by
            conv => lhs; rw [hsplit]
            rw [List.filter_append, List.filter_cons, List.filter_eq_self.2 fun y hy => by have := n1 y hy; simp; omega, List.filter_eq_self.2 fun y hy => by have := n2 y hy; simp; omega]
            simp [hp]
          exact key _ rfl
        have hsp : pReap t parent = ({ t with ps := t.ps.take i ++ t.ps.drop (i + 1) }, t.ps[i].2, 0) := by simp only [pReap, hd1, hfil]
        obtain ⟨t', ht'⟩ : ∃ t' : PT, t' = { t with ps := t.ps.take i ++ t.ps.drop (i + 1) } := ⟨_, rfl⟩
        have hL : rL t' = (rL t).take i ++ (rL t).drop (i + 1) := by rw [ht']; simp [rL]
        have hL2 : (rL t').length = i + ((rL t).length - (i + 1)) := by rw [hL]; simp; omega
        have fin : ∀ (v : SV), den v = den (.tuple [.agg (encP6 t.ps[i].2), .int .i64 0]) → ∀ (ao2 : Option Addr) (cap2 j : Nat) (e1 e2 e3 : Ent), up (fun h' r => ∃ ao' cap', h' = rtE ⟨(pReap t parent).1, ao', cap'⟩ b ∧ r = .tuple [.agg (encP6 (pReap t parent).2.1), .int .i64 (pReap t parent).2.2]) [⟨.blk b, .cells [.vec j ao2 (i - 0 + ((rL t).length - (i + 1))) cap2, .int .i64 t.room, .int .i64 t.last] 152⟩, e1, e2, e3, ⟨.sl ao2 cap2, .vecL 149 8 encR (((rL t).drop 0).take (i - 0) ++ ((rL t).drop (i + 1)).take ((rL t).length - (i + 1))) PR.zero⟩] v := fun v hvd ao2 cap2 j e1 e2 e3 => by
          rw [hsp, ← ht']
          refine ⟨rtE ⟨t', ao2, cap2⟩ b, _, fun W F w hr => ?_, hvd, ao2, cap2, rfl, rfl⟩
          have g1 := Rep.pick (π := [0, 4]) (by decide) rfl hr
          have g2 := Rep.cellsEq (l := 0) (cs' := [.vec 1 ao2 (i + ((rL t).length - (i + 1))) cap2, .int .i64 t.room, .int .i64 t.last]) rfl (by rfl) g1
          have e : rtE ⟨t', ao2, cap2⟩ b = [⟨.blk b, .cells [.vec 1 ao2 (i + ((rL t).length - (i + 1))) cap2, .int .i64 t.room, .int .i64 t.last] 152⟩, ⟨.sl ao2 cap2, .vecL 149 8 encR (((rL t).drop 0).take (i - 0) ++ ((rL t).drop (i + 1)).take ((rL t).length - (i + 1))) PR.zero⟩] := by
            have hdr : ((rL t).drop (i + 1)).take ((rL t).length - (i + 1)) = (rL t).drop (i + 1) := List.take_of_length_le (by simp)
            unfold rtE
            dsimp only
            rw [hL2, hL, hdr, ht']
            rfl
          rw [e]
          exact g2
        repeat' first
          | exact rfl
          | exact hi2
          | exact fin _ (by simp [encP6, hz]) _ _ _ _ _ _
          | (refine ⟨((rL t).drop (i + 1)).take ((rL t).length - (i + 1)), ?_, rfl, fun ao2 cap2 _ => ?_⟩)
          | (refine fun y => rfl)
          | apply And.intro
          | (show _ ≤ _; omega)
          | (show _ < _; omega)
          | (refine fun ao2 cap2 _ => ?_)
          | (simp; done)
          | (simp; omega)
          | fail
theorem raReap_ok : CtrOk Try.prog 43 (adtC rtE raReapM) := adt_ok fun b s rest N h => by
  obtain ⟨t, ao, cap⟩ := s
  unfold raReapM at h
  split at h
  case h_2 => exact h.elim
  rename_i parent
  obtain ⟨ho, h⟩ := h
  intro W F w hr
  refine Calls.mono (rtReap_spec ho b ao cap parent W F w hr) ?_
  rintro e w' ⟨h', r, ⟨ao', cap', rfl, rfl⟩, rfl, hr'⟩
  exact ⟨_, _, ⟨_, fun W F w hr => hr, h ao' cap'⟩, rfl, hr'⟩
end Go.Proofs.Ytihajdkipkfiiaa
