/- ProcTree: its inner loop. -/
import Derived.Test.YtihajdkipkfiiaaPtP
import Derived.Test.YtihajdkipkfiiaaPrc7
import Derived.Test.YtihajdkipkfiiaaPt1Run
namespace Go.Proofs.Ytihajdkipkfiiaa
open Go Go.RowKit
set_option linter.unusedVariables false
set_option linter.unusedSimpArgs false
set_option linter.unnecessarySimpa false
set_option maxHeartbeats 0

theorem bne_same (x : Int) : (x != x) = false := by simp
/-- What the inner loop asks of each process. -/
theorem TI.each {s : PT} {b0 : Nat} (h : TI s b0) {k : Nat} (hk : 1 ≤ k) (hk2 : k < s.ps.length) : pHas s (s.ps[k]).2.parent = true ∧ (pGet s (s.ps[k]).2.parent).zombie = false ∧ (s.ps[k - 1]'(by omega)).2.pid < (s.ps[k]).2.pid ∧ (s.ps[k]).2.parent < (s.ps[k]).2.pid := by
  obtain ⟨L, e, hL⟩ := h.shape
  have hm : s.ps[k] ∈ L := by
    have : s.ps[k] = L[k - 1]'(by rw [e] at hk2; simp at hk2; omega) := by
      simp only [e]
      rw [List.getElem_cons]
      rw [dif_neg (by omega)]
    rw [this]; exact List.getElem_mem _
  obtain ⟨h1, y, h2, h3, h4⟩ := hL _ hm
  obtain ⟨j, hj, hje⟩ := List.mem_iff_getElem.1 h2
  have hg := getP_at h.ok.asc hj
  rw [hje, h3] at hg
  obtain ⟨e1, e2, _⟩ := pHas_some hg
  exact ⟨e1, by rw [e2]; exact h4, List.pairwise_iff_getElem.1 h.ok.asc (k - 1) k (by omega) hk2 (by omega), h1⟩
section
variable {W : World} {F : List Ch} {ao : Option Addr} {cap : Nat} {bs : List Int} {b bp : Nat}
theorem pt_28 {J : Act → World → Prop} {s : PT} {i : Nat} (hT : TI s bp) (hlen : s.ps.length ≤ 200) (hi : i ≤ 150)
    (hback : ∀ tm t, lenN tm = 192 → liveOk tm [(0, .vec 0 ao bs.length cap), (3, .ptr 1 b 0), (4, .int .i64 s.last), (5, .int .i64 ((i + 1 : Nat) : Int))] → G Try.prog (endQ Try.prog Try.f4 W F fun _ r => r = .bool true) W F (.loop J :: .blk 0 :: frm [] (bodyOf Try.f4) [1, 1, 1, 1, 1, 1] []) ⟨tm, [⟨.sl ao cap, .roL 1 encU8 bs 0⟩, pkA b ptE s] ++ t⟩) (u : Nat → Value) :
    G Try.prog (endQ Try.prog Try.f4 W F fun _ r => r = .bool true) W F (frmR [J] (bodyOf Try.f4) 28) ⟨mkT u 192 0 [(0, .vec 0 ao bs.length cap), (3, .ptr 1 b 0), (4, .int .i64 s.last), (5, .int .i64 (i : Int))], [⟨.sl ao cap, .roL 1 encU8 bs 0⟩, pkA b ptE s]⟩ := by
  refine G_run (kc := false) (ss := []) ptTk_ok hmP 1500 ?_
  rw [tr_28]
  refine ⟨rfl, rfl, rfl, HEq.rfl, ⟨hT.ok, hlen⟩, fun aA cA => ?_⟩
  obtain ⟨L, e, hL⟩ := hT.shape
  have hU : upto (0 : Int) (List.map (fun (x : Nat × PR) => x.snd) s.ps) = List.map (fun (x : Nat × PR) => x.snd) s.ps := rfl
  have hl : (List.map (fun (x : Nat × PR) => x.snd) s.ps).length = s.ps.length := by simp
  have hpos : 0 < s.ps.length := by rw [e]; simp
  have hget : List.getD (List.map (fun (x : Nat × PR) => x.snd) s.ps) 0 (PR.mk (0 : Int) (0 : Int) (ByteArray.mk #[]) false (0 : Int) (ByteArray.mk #[]) false false) = rootP := by rw [e]; rfl
  rw [hU, hl, hget]
  have n0 : ((s.ps.length : Int) == 0) = false := beq_eq_false_iff_ne.2 (by omega)
  have w1 : IntKind.wrap .i64 ((s.ps.length : Int) - 1 + 1) = (s.ps.length : Int) := by
    rw [show ((s.ps.length : Int) - 1 + 1) = (s.ps.length : Int) by omega]; exact IntWalk.i64_in _ (by omega)
  rw [n0, w1]
  have hroot : (!(rootP.pid == (1 : Int) && (rootP.parent == (0 : Int) && (sEq rootP.group (ByteArray.mk #[]) && (rootP.zombie == false && (rootP.status == (0 : Int) && (sEq rootP.cmd (ByteArray.mk #[]) && true))))))) = false := by decide +kernel
  rw [hroot, bne_same]
  refine ⟨⟨rfl, rfl, rfl, by decide, by omega⟩, ⟨rfl, rfl, rfl, hpos, rfl⟩, ⟨rfl, rfl⟩, rfl, rfl, rfl, HEq.rfl, hT.ok, ?_⟩
  refine G_loopAt (ι := Nat) [_] (bodyOf Try.f4) [1, 1, 1, 1, 1, 0, 1, 0, 0, 1, 0, 0, 1, 1, 1, 1, 1, 0] 192 (fun k => [(0, .vec 0 ao bs.length cap), (3, .ptr 1 b 0), (4, .int .i64 s.last), (5, .int .i64 (i : Int)), (15, .vec 2 aA (List.map (fun (x : Nat × PR) => x.snd) s.ps).length cA), (16, .int .i64 (k : Int))]) (fun _ => [⟨.sl ao cap, .roL 1 encU8 bs 0⟩, pkA b ptE s, ⟨.sl aA cA, .vecL 45 6 encP6 (List.map (fun (x : Nat × PR) => x.snd) s.ps) PR.zero⟩])
    (fun k => 1 ≤ k ∧ k ≤ s.ps.length) (fun k => s.ps.length - k) 1 (by kernel_rfl) (fun J => by kernel_rfl) ⟨by omega, by omega⟩ rfl ⟨rfl, rfl, rfl, rfl, by rw [hl]; rfl, rfl, trivial⟩ (fun w hw => hw) ?_
  rintro k ⟨hk1, hk2⟩ u
  simp only [List.nil_append, List.cons_append]
  refine G_run (kc := true) (ss := []) ptTk_ok hmP 2500 ?_
  rw [tr_l2, hl]
  have w2 : IntKind.wrap .i64 ((k : Int) + 1) = ((k + 1 : Nat) : Int) := IntWalk.i64_in _ (by omega)
  have w3 : IntKind.wrap .i64 ((k : Int) - 1) = ((k - 1 : Nat) : Int) := by
    rw [show ((k : Int) - 1) = ((k - 1 : Nat) : Int) by omega]; exact IntWalk.i64_in _ (by omega)
  have w4 : IntKind.wrap .i64 ((i : Int) + 1) = ((i + 1 : Nat) : Int) := IntWalk.i64_in _ (by omega)
  cases hlt : decide ((k : Int) < (s.ps.length : Int)) with
  | false => 
    rw [w4]
    exact hback _ [_] rfl ⟨rfl, rfl, rfl, rfl, trivial⟩
  | true =>
    simp only [decide_eq_true_eq] at hlt
    have hk' : k < s.ps.length := by omega
    obtain ⟨q1, q2, q3, q4⟩ := hT.each hk1 hk'
    have g1 : List.getD (List.map (fun (x : Nat × PR) => x.snd) s.ps) k (PR.mk (0 : Int) (0 : Int) (ByteArray.mk #[]) false (0 : Int) (ByteArray.mk #[]) false false) = (s.ps[k]).2 := by simp [List.getD, hk']
    have g2 : List.getD (List.map (fun (x : Nat × PR) => x.snd) s.ps) (k - 1) (PR.mk (0 : Int) (0 : Int) (ByteArray.mk #[]) false (0 : Int) (ByteArray.mk #[]) false false) = (s.ps[k - 1]'(by omega)).2 := by simp [List.getD, show k - 1 < s.ps.length by omega]
    have q3' : decide ((s.ps[k]).2.pid ≤ (s.ps[k - 1]'(by omega)).2.pid) = false := decide_eq_false (by omega)
    have q4' : decide ((s.ps[k]).2.parent ≥ (s.ps[k]).2.pid) = false := decide_eq_false (by omega)
    have fin : ∀ (fk : List Frm) (tm : List SV) (t : List Ent), lenN tm = 192 → liveOk tm [(0, .vec 0 ao bs.length cap), (3, .ptr 1 b 0), (4, .int .i64 s.last), (5, .int .i64 (i : Int)), (15, .vec 2 aA s.ps.length cA), (16, .int .i64 ((k + 1 : Nat) : Int))] → G Try.prog (endQ Try.prog Try.f4 W F fun _ r => r = .bool true) W F (.loop (Back W F 192 (fun k : Nat => [(0, .vec 0 ao bs.length cap), (3, .ptr 1 b 0), (4, .int .i64 s.last), (5, .int .i64 (i : Int)), (15, .vec 2 aA s.ps.length cA), (16, .int .i64 (k : Int))]) (fun _ => [⟨.sl ao cap, .roL 1 encU8 bs 0⟩, pkA b ptE s, ⟨.sl aA cA, .vecL 45 6 encP6 (List.map (fun (x : Nat × PR) => x.snd) s.ps) PR.zero⟩]) (fun k => 1 ≤ k ∧ k ≤ s.ps.length) (fun k => s.ps.length - k) (s.ps.length - k)) :: fk) ⟨tm, [⟨.sl ao cap, .roL 1 encU8 bs 0⟩, pkA b ptE s, ⟨.sl aA cA, .vecL 45 6 encP6 (List.map (fun (x : Nat × PR) => x.snd) s.ps) PR.zero⟩] ++ t⟩ :=
      fun fk tm t h1 h2 => G_back (k + 1) ⟨by omega, by omega⟩ (by omega) h1 h2 (fun w hw => Rep.dropR hw)
    rw [Int.toNat_natCast, w3, Int.toNat_natCast, g1, g2, w2, q1, q2, q3', q4']
    repeat' first
      | apply And.intro
      | exact rfl
      | exact HEq.rfl
      | exact hT.ok
      | (show _ ≤ _; omega)
      | (show _ < _; omega)
      | (refine ⟨rfl, ?_⟩)
      | exact fin _ _ [_] rfl ⟨rfl, rfl, rfl, rfl, rfl, rfl, trivial⟩
      | (refine fun _ => ?_)
end
end Go.Proofs.Ytihajdkipkfiiaa
