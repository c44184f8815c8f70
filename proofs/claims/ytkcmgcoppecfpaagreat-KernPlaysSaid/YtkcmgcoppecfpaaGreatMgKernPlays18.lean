import Derived.Test.YtkcmgcoppecfpaaGreatMgKernPlays17
import Derived.Test.YtkcmgcoppecfpaaGreatMgKernPlays4
import Derived.ChangeSlices
import Derived.OpenShut
import Derived.Carry
import Derived.ProofKit
import Derived.Deep.Grids
import Derived.Deep.Strs
import Derived.Deep.Slices
import Derived.Test.YtkcmgcoppecfpaaGreatMgKernPlays12
set_option linter.unusedVariables false
set_option linter.unusedSimpArgs false
set_option linter.unnecessarySimpa false
set_option maxHeartbeats 0
set_option maxRecDepth 100000
/- KernPlays. -/
namespace Go.Proofs.YtkcmgcoppecfpaaGreat
open Go Go.RowKit
section
variable {W : World} {F : List Ch} {ao : Option Addr} {cap : Nat} {bs : List StepK} {bk br bp bg bq b8 b9 bd : Nat} {vt vr vm vmS : Value} {pt : PT} {gr : Grp} {r : RG} {ds : List DG} {aoP ao8 aoS : Option Addr} {capP cap8 capS : Nat} {lst nx m w : Int} {i : Nat} {x : StepK} {b0 : Nat} {st : Sy}
theorem kw14 (hi : i < bs.length) (hl : bs.length ≤ 100) (h : KI pt gr r ds m w i) (hn : x.name.size ≤ 100) (hnr : inR x.n) (h1 : lenN st.tmps = 321) (h2 : liveOk st.tmps [(2, .vec 0 ao bs.length cap), (7, .ptr 2 bk 0), (8, .ptr 3 br 0), (9, .int .i64 (i : Int)), (10, .ptr 1 b0 0), (11, .int .i64 0), (12, .int .i64 0), (13, .int .i64 0), (14, .int .i64 0)]) (hh : ∀ y, Rep W F st.heap y → Rep W F [⟨.sl ao cap, .roL 6 encStepK bs StepK.zero⟩, ⟨.blk b0, .cells (encStepK x) 54⟩, ⟨.blk bk, .cells [.ptr 4 bp 0, .ptr 5 bg 0, .ptr 6 bq 0, .raw vt, .int .i64 m, .int .i64 w] 96⟩, ⟨.blk br, .cells [.ptr 7 b8 0, .ptr 8 b9 0, .ptr 9 bd 0, .raw vr, .int .i64 m, .int .i64 w] 60⟩, pkA bp ptE pt, pkA bg grpE gr, pkA bq poE ⟨vm, aoP, capP, ds, lst⟩, pkA b8 rtE ⟨pt, ao8, cap8⟩, pkA b9 rgE r, pkA bd sdE ⟨vmS, nx, aoS, capS, ds⟩] y) : G Tryz.prog (endQ Tryz.prog Tryz.f4 W F fun _ r => r = .bool true) W F (frmR [(Back W F 321 (fun y : Nat × KS => [(2, .vec 0 ao bs.length cap), (7, .ptr 1 bk 0), (8, .ptr 2 br 0), (9, .int .i64 (y.1 : Int))]) (fun y : Nat × KS => [⟨.sl ao cap, .roL 6 encStepK bs StepK.zero⟩, ⟨.blk bk, .cells [.ptr 3 bp 0, .ptr 4 bg 0, .ptr 5 bq 0, .raw vt, .int .i64 y.2.m, .int .i64 y.2.w] 96⟩, ⟨.blk br, .cells [.ptr 6 b8 0, .ptr 7 b9 0, .ptr 8 bd 0, .raw vr, .int .i64 y.2.m, .int .i64 y.2.w] 60⟩, pkA bp ptE y.2.pt, pkA bg grpE y.2.gr, pkA bq poE ⟨vm, y.2.aoP, y.2.capP, y.2.ds, lst⟩, pkA b8 rtE ⟨y.2.pt, y.2.ao8, y.2.cap8⟩, pkA b9 rgE y.2.r, pkA bd sdE ⟨vmS, nx, y.2.aoS, y.2.capS, y.2.ds⟩]) (fun y : Nat × KS => y.1 ≤ bs.length ∧ KI y.2.pt y.2.gr y.2.r y.2.ds y.2.m y.2.w y.1) (fun y : Nat × KS => bs.length - y.1) (bs.length - i))] (bodyOf Tryz.f4) 14) st := by
  refine G_live 321 [(2, .vec 0 ao bs.length cap), (7, .ptr 2 bk 0), (8, .ptr 3 br 0), (9, .int .i64 (i : Int)), (10, .ptr 1 b0 0), (11, .int .i64 0), (12, .int .i64 0), (13, .int .i64 0), (14, .int .i64 0)] [⟨.sl ao cap, .roL 6 encStepK bs StepK.zero⟩, ⟨.blk b0, .cells (encStepK x) 54⟩, ⟨.blk bk, .cells [.ptr 4 bp 0, .ptr 5 bg 0, .ptr 6 bq 0, .raw vt, .int .i64 m, .int .i64 w] 96⟩, ⟨.blk br, .cells [.ptr 7 b8 0, .ptr 8 b9 0, .ptr 9 bd 0, .raw vr, .int .i64 m, .int .i64 w] 60⟩, pkA bp ptE pt, pkA bg grpE gr, pkA bq poE ⟨vm, aoP, capP, ds, lst⟩, pkA b8 rtE ⟨pt, ao8, cap8⟩, pkA b9 rgE r, pkA bd sdE ⟨vmS, nx, aoS, capS, ds⟩] h1 h2 hh fun u => ?_
  refine G_run (kc := false) (ss := [15, 18, 21, 25, 29, 31, 33, 35, 37, 43, 45, 47]) kpT_ok hmKw 900 ?_
  rw [kp_14]
  refine ⟨rfl, ?_⟩
  repeat' first
    | exact kw15 hi hl h hn hnr rfl ⟨rfl, rfl, rfl, rfl, rfl, rfl, rfl, rfl, rfl, trivial⟩ (fun y hr => hr)
    | exact kw18 hi hl h hn hnr rfl ⟨rfl, rfl, rfl, rfl, rfl, rfl, rfl, rfl, rfl, trivial⟩ (fun y hr => hr)
    | exact kw21 hi hl h hn hnr rfl ⟨rfl, rfl, rfl, rfl, rfl, rfl, rfl, rfl, rfl, trivial⟩ (fun y hr => hr)
    | exact kw25 hi hl h hn hnr rfl ⟨rfl, rfl, rfl, rfl, rfl, rfl, rfl, rfl, rfl, trivial⟩ (fun y hr => hr)
    | exact kw29 hi hl h hn hnr rfl ⟨rfl, rfl, rfl, rfl, rfl, rfl, rfl, rfl, rfl, trivial⟩ (fun y hr => hr)
    | exact kw31 hi hl h hn hnr rfl ⟨rfl, rfl, rfl, rfl, rfl, rfl, rfl, rfl, rfl, trivial⟩ (fun y hr => hr)
    | exact kw33 hi hl h hn hnr rfl ⟨rfl, rfl, rfl, rfl, rfl, rfl, rfl, rfl, rfl, trivial⟩ (fun y hr => hr)
    | exact kw35 hi hl h hn hnr rfl ⟨rfl, rfl, rfl, rfl, rfl, rfl, rfl, rfl, rfl, trivial⟩ (fun y hr => hr)
    | exact kw37 hi hl h hn hnr rfl ⟨rfl, rfl, rfl, rfl, rfl, rfl, rfl, rfl, rfl, trivial⟩ (fun y hr => hr)
    | exact kw43 hi hl h hn hnr rfl ⟨rfl, rfl, rfl, rfl, rfl, rfl, rfl, rfl, rfl, trivial⟩ (fun y hr => hr)
    | exact kw45 hi hl h hn hnr rfl ⟨rfl, rfl, rfl, rfl, rfl, rfl, rfl, rfl, rfl, trivial⟩ (fun y hr => hr)
    | exact kw47 hi hl h hn hnr rfl ⟨rfl, rfl, rfl, rfl, rfl, rfl, rfl, rfl, rfl, trivial⟩ (fun y hr => hr)
    | split
    | fail
theorem kw52 (hl : i ≤ 100) (h : KI pt gr r ds m w i) (h1 : lenN st.tmps = 321) (h2 : liveOk st.tmps [(7, .ptr 1 bk 0), (8, .ptr 2 br 0)]) (hh : ∀ y, Rep W F st.heap y → Rep W F [⟨.sl ao cap, .roL 6 encStepK bs StepK.zero⟩, ⟨.blk bk, .cells [.ptr 3 bp 0, .ptr 4 bg 0, .ptr 5 bq 0, .raw vt, .int .i64 m, .int .i64 w] 96⟩, ⟨.blk br, .cells [.ptr 6 b8 0, .ptr 7 b9 0, .ptr 8 bd 0, .raw vr, .int .i64 m, .int .i64 w] 60⟩, pkA bp ptE pt, pkA bg grpE gr, pkA bq poE ⟨vm, aoP, capP, ds, lst⟩, pkA b8 rtE ⟨pt, ao8, cap8⟩, pkA b9 rgE r, pkA bd sdE ⟨vmS, nx, aoS, capS, ds⟩] y) : G Tryz.prog (endQ Tryz.prog Tryz.f4 W F fun _ r => r = .bool true) W F (frmR [] (bodyOf Tryz.f4) 52) st := by
  refine G_live 321 [(7, .ptr 1 bk 0), (8, .ptr 2 br 0)] [⟨.sl ao cap, .roL 6 encStepK bs StepK.zero⟩, ⟨.blk bk, .cells [.ptr 3 bp 0, .ptr 4 bg 0, .ptr 5 bq 0, .raw vt, .int .i64 m, .int .i64 w] 96⟩, ⟨.blk br, .cells [.ptr 6 b8 0, .ptr 7 b9 0, .ptr 8 bd 0, .raw vr, .int .i64 m, .int .i64 w] 60⟩, pkA bp ptE pt, pkA bg grpE gr, pkA bq poE ⟨vm, aoP, capP, ds, lst⟩, pkA b8 rtE ⟨pt, ao8, cap8⟩, pkA b9 rgE r, pkA bd sdE ⟨vmS, nx, aoS, capS, ds⟩] h1 h2 hh fun u => ?_
  refine G_run (kc := false) (ss := []) kpT_ok hmKw 1500 ?_
  rw [kp_52]
  have hrok := h.kh.gl.rok (by omega)
  refine ⟨rfl, rfl, rfl, rfl, rfl, HEq.rfl, fun ao1 cap1 => ⟨rfl, rfl, rfl, rfl, HEq.rfl, hrok, fun ao2 cap2 => ?_⟩⟩
  obtain ⟨q1, q2⟩ := h.kh.gl.emptied ao1 cap1 ao2 cap2
  have hse : ∀ y : ByteArray, sEq y y = true := fun y => (sEqG y y).2 rfl
  rw [q1, hse]
  dsimp only
  rw [beq_self_eq_true]
end
theorem kw_ok (room wall : Int) (ao : Option Addr) (cap : Nat) (bs : List StepK) (hwall : inR wall) : Spec Tryz.prog 4 [⟨.sl ao cap, .roL 6 encStepK bs StepK.zero⟩, factsK bs] [.int .i64 room, .int .i64 wall, .vec 0 ao bs.length cap] fun _ r => r = .bool true := by
  refine Spec.of_G 321 Tryz.func4 (c := bodyOf Tryz.f4) (by kernel_rfl) (by kernel_rfl) (Nat.le_of_ble_eq_true rfl) fun W F => ?_
  have hz0 : inR 0 := ⟨by decide, by decide⟩
  refine G_factsK (bs := bs) 1 rfl fun hfacts => ?_
  refine G_heap (h' := [⟨.sl ao cap, .roL 6 encStepK bs StepK.zero⟩]) (fun w hr => Rep.dropR (h := [_]) (t := [_]) hr) ?_
  refine G_run (kc := false) (ss := []) kpT_ok hmKw 1500 ?_
  rw [kp_start]
  refine ⟨rfl, ?_⟩
  cases h100 : decide ((bs.length : Int) > 100) with
  | true => exact rfl
  | false =>
    simp only [decide_eq_false_iff_not] at h100
    have walk : ∀ (bp bm bpp bg bgg bo bq bk b8 b9 bd br : Nat) (vm : Value) (vt vr : Value) (ao8 : Option Addr) (cap8 : Nat) (tm : List SV), lenN tm = 321 → liveOk tm [(2, .vec 0 ao bs.length cap), (7, .ptr 1 bk 0), (8, .ptr 2 br 0), (9, .int .i64 ((0 : Nat) : Int))] → G Tryz.prog (endQ Tryz.prog Tryz.f4 W F fun _ r => r = .bool true) W F (frm [] (bodyOf Tryz.f4) [1, 1, 1, 1, 0, 1, 0] []) ⟨tm, [⟨.sl ao cap, .roL 6 encStepK bs StepK.zero⟩, pkA bp ptE (pNew room bm bpp), pkA bg grpE ⟨bgg, bo, none, 0, [], [], []⟩, pkA bq poE ⟨vm, none, 0, [], 0⟩, ⟨.blk bk, .cells [.ptr 1 bp 0, .ptr 2 bg 0, .ptr 3 bq 0, .raw vt, .int .i64 0, .int .i64 wall] 96⟩, pkA b8 rtE ⟨pNew room bm bpp, ao8, cap8⟩, ⟨.blk b9, .cells [.raw (.slice none 0 0), .raw (.slice none 0 0)] 126⟩, ⟨.blk bd, .cells [.raw (.slice none 0 0), .int .i64 0, .raw (.slice none 0 0)] 86⟩, ⟨.blk br, .cells [.ptr 5 b8 0, .ptr 6 b9 0, .ptr 7 bd 0, .raw vr, .int .i64 0, .int .i64 wall] 60⟩]⟩ := by
      intro bp bm bpp bg bgg bo bq bk b8 b9 bd br vm vt vr ao8 cap8 tm g1 g2
      refine G_loopAt (ι := Nat × KS) [] (bodyOf Tryz.f4) [1, 1, 1, 1, 0, 1, 0] 321 (fun y : Nat × KS => [(2, .vec 0 ao bs.length cap), (7, .ptr 1 bk 0), (8, .ptr 2 br 0), (9, .int .i64 (y.1 : Int))]) (fun y : Nat × KS => [⟨.sl ao cap, .roL 6 encStepK bs StepK.zero⟩, ⟨.blk bk, .cells [.ptr 3 bp 0, .ptr 4 bg 0, .ptr 5 bq 0, .raw vt, .int .i64 y.2.m, .int .i64 y.2.w] 96⟩, ⟨.blk br, .cells [.ptr 6 b8 0, .ptr 7 b9 0, .ptr 8 bd 0, .raw vr, .int .i64 y.2.m, .int .i64 y.2.w] 60⟩, pkA bp ptE y.2.pt, pkA bg grpE y.2.gr, pkA bq poE ⟨vm, y.2.aoP, y.2.capP, y.2.ds, 0⟩, pkA b8 rtE ⟨y.2.pt, y.2.ao8, y.2.cap8⟩, pkA b9 rgE y.2.r, pkA bd sdE ⟨.slice none 0 0, 0, y.2.aoS, y.2.capS, y.2.ds⟩]) (fun y : Nat × KS => y.1 ≤ bs.length ∧ KI y.2.pt y.2.gr y.2.r y.2.ds y.2.m y.2.w y.1) (fun y : Nat × KS => bs.length - y.1) (0, ⟨pNew room bm bpp, ⟨bgg, bo, none, 0, [], [], []⟩, ⟨none, 0, [], none, 0, []⟩, [], none, ao8, none, 0, cap8, 0, 0, wall⟩) (by kernel_rfl) (fun J => by kernel_rfl) ⟨Nat.zero_le _, ⟨KH0 _ _ _ _ _, Nat.zero_le _, hz0, hwall⟩⟩ g1 g2 (fun y hr => ?_) ?_
      · have q1 := Rep.nilvec 131 (sz := 2) (enc := encRg) zR (fun _ => rfl) hr
        have q2 := Rep.nilvec 9 (sz := 1) (enc := encS) ByteArray.empty (fun _ => rfl) q1
        have q2b := Rep.nilvec 168 (sz := 2) (enc := encDG) DG.zero (fun _ => rfl) q2
        have q3 : Rep W F (pk 0 [] :: _) y := Rep.pk 0 (h := []) q2b
        -- [pk, RO, pt, gr, po, KC, rt, R9, S10, KR, V9a, V9b, VD]
        have q4 := Rep.pick (π := [7, 10, 11, 0, 8, 12, 1, 5, 9, 2, 3, 4, 6]) (by decide) rfl q3
        have q5 := Rep.cellsEq (l := 0) (cs' := [.vec 1 none 0 0, .vec 2 none 0 0]) rfl (by rfl) q4
        have q6 : Rep W F (pkA b9 rgE ⟨none, 0, [], none, 0, []⟩ :: _) y := Rep.pkA (S := rgE) (s := ⟨none, 0, [], none, 0, []⟩) (b := b9) (t := [_, _, _, _, _, _, _, _, _]) q5
        -- [rg, S10, VD, RO, KC, KR, pt, gr, po, rt]
        have q7 := Rep.pick (π := [1, 2, 0, 3, 4, 5, 6, 7, 8, 9]) (by decide) rfl q6
        have q8 := Rep.cellsEq (l := 0) (cs' := [.raw (.slice none 0 0), .int .i64 0, .vec 1 none 0 0]) rfl (by rfl) q7
        have q9 : Rep W F (pkA bd sdE ⟨.slice none 0 0, 0, none, 0, []⟩ :: _) y := Rep.pkA (S := sdE) (s := ⟨.slice none 0 0, 0, none, 0, []⟩) (b := bd) (t := [_, _, _, _, _, _, _, _]) q8
        -- [sd, rg, RO, KC, KR, pt, gr, po, rt]
        have q10 := Rep.pick (π := [2, 3, 4, 5, 6, 7, 8, 1, 0]) (by decide) rfl q9
        have q11 := Rep.cellsEq (l := 1) (cs' := [.ptr 3 bp 0, .ptr 4 bg 0, .ptr 5 bq 0, .raw vt, .int .i64 0, .int .i64 wall]) rfl (by rfl) q10
        exact Rep.cellsEq (l := 2) (cs' := [.ptr 6 b8 0, .ptr 7 b9 0, .ptr 8 bd 0, .raw vr, .int .i64 0, .int .i64 wall]) rfl (by rfl) q11
      rintro ⟨i, ⟨pt, gr, r, ds, aoP, ao8, aoS, capP, cap8, capS, m, w⟩⟩ ⟨hi, h⟩ u
      dsimp only at hi h
      try dsimp only
      simp only [List.nil_append, List.cons_append]
      refine G_run (kc := false) (ss := [14, 52]) kpT_ok hmKw 900 ?_
      rw [kp_l1]
      cases hlt : decide ((i : Int) < (bs.length : Int)) with
      | false => exact kw52 (by omega) h rfl ⟨rfl, rfl, trivial⟩ (fun y hr => hr)
      | true =>
        simp only [decide_eq_true_eq] at hlt
        have hi2 : i < bs.length := by omega
        have hgb : ∀ d, bs.getD i d = bs[i] := fun d => by simp [List.getD, hi2]
        have hw := hfacts _ (List.getElem_mem hi2)
        rw [Int.toNat_natCast, hgb]
        generalize bs[i] = x at hw ⊢
        have hnr : inR x.n := by
          unfold goodK at hw
          simp only [Lit.wf, Bool.and_eq_true, decide_eq_true_eq] at hw
          exact hw
        refine ⟨⟨rfl, rfl, rfl, by omega, by omega⟩, ⟨rfl, rfl, rfl, hi2, rfl⟩, fun b0 => ⟨⟨rfl, rfl, rfl, Nat.le_refl _⟩, rfl, ?_⟩⟩
        cases hn : decide ((x.name.size : Int) > 100) with
        | true => exact rfl
        | false =>
          simp only [decide_eq_false_iff_not] at hn
          refine ⟨rfl, ?_⟩
          cases hn2 : decide ((x.text.size : Int) > 300) with
          | true => exact rfl
          | false =>
            refine kw14 (x := x) (b0 := b0) (aoP := aoP) (ao8 := ao8) (aoS := aoS) (capP := capP) (cap8 := cap8) (capS := capS) hi2 (by omega) h (by omega) hnr rfl ⟨rfl, rfl, rfl, rfl, rfl, rfl, rfl, rfl, rfl, trivial⟩ (fun y hr => ?_)
            have q1 := Rep.pick (π := [0, 9, 1, 2, 3, 4, 5, 6, 7, 8]) (by decide) rfl hr
            have q2 := Rep.cellsEq (l := 2) (cs' := [.ptr 4 bp 0, .ptr 5 bg 0, .ptr 6 bq 0, .raw vt, .int .i64 m, .int .i64 w]) rfl (by rfl) q1
            exact Rep.cellsEq (l := 3) (cs' := [.ptr 7 b8 0, .ptr 8 b9 0, .ptr 9 bd 0, .raw vr, .int .i64 m, .int .i64 w]) rfl (by rfl) q2
    refine ⟨rfl, rfl, fun b bm bp => ⟨rfl, fun b1 bg bo => ⟨rfl, fun b2 vm => ⟨rfl, fun v => ⟨⟨rfl, rfl⟩, rfl, fun b3 => ⟨rfl, rfl, bm, bp, fun b4 ao1 cap1 => ⟨⟨rfl, rfl⟩, rfl, fun b5 => ⟨⟨rfl, rfl⟩, rfl, fun b6 => ⟨rfl, fun v1 => ⟨⟨rfl, rfl⟩, rfl, fun b7 => ?_⟩⟩⟩⟩⟩⟩⟩⟩⟩⟩
    exact walk _ _ _ _ _ _ _ _ _ _ _ _ _ _ _ _ _ _ rfl ⟨rfl, rfl, rfl, rfl, trivial⟩
end Go.Proofs.YtkcmgcoppecfpaaGreat

/- A law's call with a slice of numbers as1 its argument. -/
namespace Go.Proofs.YtkcmgcoppecfpaaGreat
open Go Go.RowKit Go.ChangeShapes

end Go.Proofs.YtkcmgcoppecfpaaGreat

/- A law's call with a slice of rows (structs of plain fields) as1 its argument. -/
namespace Go.Proofs.YtkcmgcoppecfpaaGreat
open Go Go.RowKit Go.ChangeShapes

theorem arg_rows {P : Program} {H : Type} {enc : TypeId × Value → H} {t e : TypeId} {fuel : Nat} {W : World} {a0 : Option Addr} {len cap : Nat} {x : DataW H × List MemPlace} {α : Type} {enc' : α → List SV} {sz : Nat} {good : α → Prop} (d : α)
    (henc : ∀ x, (enc' x).length = sz) (ht : P.underlying t = some (.slice e)) (hc : P.cellsOf e = sz) (hpos : 0 < sz)
    (hel : ∀ n cs y, cs.length = sz → DataW.trod enc P W 0 (fun _ => true) true n e cs = some y → ∃ a, cs = denL (enc' a) ∧ good a)
    (hf : DataW.trod enc P W 0 (fun _ => true) true fuel t [.slice a0 len cap] = some x) :
    ∃ bs : List α, bs.length = len ∧ (∀ z ∈ bs, good z) ∧ has W (.sl a0 cap) (.roL sz enc' bs d) [] := by
  rcases Go.Deep.open_slice ht hf with ⟨hcs, _⟩ | ⟨a, len', cap', m, n, D, Pl, hcs, _, hl, hm, hmm, _, hx⟩
  · simp only [List.cons.injEq, Value.slice.injEq, and_true] at hcs
    obtain ⟨rfl, rfl, rfl⟩ := hcs
    exact ⟨[], rfl, (fun z hz => by cases hz), rfl, henc, by simp, .inl rfl⟩
  · simp only [List.cons.injEq, Value.slice.injEq, and_true] at hcs
    obtain ⟨rfl, rfl, rfl⟩ := hcs
    simp only [if_true] at hmm
    subst hmm
    have : Inhabited α := ⟨d⟩
    obtain ⟨A, hA⟩ := Go.Deep.choose_lt (α := α) (p := fun i a' => good a' ∧ ∀ j, j < sz → W.cell? (a.add (i * sz + j)) = (denL (enc' a'))[j]?) (fun i hi => by
      obtain ⟨cs', h1, h2⟩ := hx i hi
      rw [hc] at h1
      obtain ⟨_, hlen, hcell⟩ := World.cells?_some h1
      obtain ⟨a', rfl, hg⟩ := hel _ _ _ hlen h2
      refine ⟨a', hg, fun j hj => ?_⟩
      rw [← Go.Deep.add_add]
      exact hcell j hj)
    refine ⟨(List.range len).map A, by simp, fun z hz => ?_, rfl, henc, by simpa using hl, ?_⟩
    · obtain ⟨i, hi, rfl⟩ := List.mem_map.1 hz
      exact (hA i (by have := List.mem_range.1 hi; omega)).1
    · by_cases h0 : len = 0
      · subst h0; exact .inl rfl
      refine .inr ?_
      obtain ⟨b, off, spot⟩ := a
      have hc0 := (hA 0 (by omega)).2 0 hpos
      have hlt : 0 < (denL (enc' (A 0))).length := by rw [length_denL, henc]; exact hpos
      rw [List.getElem?_eq_getElem hlt] at hc0
      have hspot : spot = none := by simpa [Addr.add] using World.cell?_spot hc0
      subst hspot
      have hcc : ∀ i, i < m → ∀ j, j < sz → W.cell? ⟨b, off + (i * sz + j), none⟩ = (denL (enc' (A i)))[j]? := fun i hi j hj => by rw [← Go.WideShapes.add_plain]; exact (hA i hi).2 j hj
      have hc1 : ∃ cur T fr, W.heap[b]? = some (.cells cur T fr) := by
        have hc0 := hcc 0 (by omega) 0 hpos
        rw [List.getElem?_eq_getElem hlt] at hc0
        simp only [World.cell?] at hc0
        split at hc0
        · rename_i cur T fr hh; exact ⟨_, _, _, hh⟩
        · cases hc0
      obtain ⟨cur, T, fr, hb⟩ := hc1
      refine ⟨b, off, cur, T, fr, rfl, hb, ?_⟩
      have hfl : (flatV enc' ((List.range len).map A)).length = len * sz := by rw [length_flatV henc]; simp
      apply List.ext_getElem?
      intro q
      rw [List.getElem?_take, List.getElem?_drop]
      split
      · rename_i hq
        have hq : q < len * sz := by simpa using hq
        have hi : q / sz < len := (Nat.div_lt_iff_lt_mul hpos).2 hq
        have hj : q % sz < sz := Nat.mod_lt _ hpos
        have hqe : q = q / sz * sz + q % sz := by rw [Nat.mul_comm]; exact (Nat.div_add_mod q sz).symm
        have h1 := hcc (q / sz) (by omega) (q % sz) hj
        rw [hqe, flatV_get henc d _ _ _ (by simpa using hi) hj, ← hqe]
        simp only [List.getD, List.getElem?_map, List.getElem?_range hi, Option.map_some, Option.getD_some]
        rw [← h1, ← hqe]
        simp [World.cell?, hb]
      · rename_i hq
        have hq : ¬ q < len * sz := by simpa using hq
        rw [List.getElem?_eq_none (by omega)]

theorem fld_int {P : Program} {H : Type} {enc : TypeId × Value → H} {W : World} {n : Nat} {t : TypeId} {cs : List Value} {y : DataW H × List MemPlace} {k : IntKind} (ht : P.underlying t = some (.int k)) (h : DataW.trod enc P W 0 (fun _ => true) true n t cs = some y) : ∃ z, cs = [.int k z] ∧ (Lit.int k z).wf = true := by
  obtain ⟨z, h1, _, h2⟩ := DataW.trod_int ht h
  exact ⟨z, h1, h2⟩
theorem fld_str {P : Program} {H : Type} {enc : TypeId × Value → H} {W : World} {n : Nat} {t : TypeId} {cs : List Value} {y : DataW H × List MemPlace} (ht : P.underlying t = some .string) (h : DataW.trod enc P W 0 (fun _ => true) true n t cs = some y) : ∃ s : ByteArray, cs = [.string s] ∧ s.size ≤ maxLen := by
  obtain ⟨z, h1, _, h2⟩ := DataW.trod_string ht h
  exact ⟨z, h1, h2⟩
theorem cut_cells : ∀ (cs : List Value) (i : Nat) (v : Value), (cs.drop i).take 1 = [v] → cs[i]? = some v
  | [], i, v, h => by simp at h
  | c :: cs, 0, v, h => by simp at h; simp [h]
  | c :: cs, i + 1, v, h => by simpa using cut_cells cs i v (by simpa using h)
end Go.Proofs.YtkcmgcoppecfpaaGreat

/- A row of the argument of KernPlays. -/
namespace Go.Proofs.YtkcmgcoppecfpaaGreat
open Go Go.RowKit
open Go.ChangeShapes
theorem stepK_row {H : Type} {enc : TypeId × Value → H} {W : World} (n : Nat) (cs : List Value) (y : DataW H × List MemPlace) (hcs : cs.length = 6) (h : DataW.trod enc Tryz.prog W 0 (fun _ => true) true n 54 cs = some y) : ∃ a, cs = denL (encStepK a) ∧ goodK W a := by
  obtain ⟨xs, m, _, _, hl, hlen, hf⟩ := DataW.trod_struct Tryz.underlying54 h
  have hlen : xs.length = 6 := hlen
  match xs, hlen with
  | [y0, y1, y2, y3, y4, y5], _ =>
  have c2 : Tryz.prog.cellsOf 2 = 1 := by kernel_rfl
  have c3 : Tryz.prog.cellsOf 3 = 1 := by kernel_rfl
  have c9 : Tryz.prog.cellsOf 9 = 1 := by kernel_rfl
  have c4 : Tryz.prog.cellsOf 4 = 1 := by kernel_rfl
  have q0 := hf 0 _ rfl
  obtain ⟨a0, e0, w0⟩ := fld_int Tryz.underlying3 q0
  have q1 := hf 1 _ rfl
  obtain ⟨a1, e1, w1⟩ := fld_int Tryz.underlying3 q1
  have q2 := hf 2 _ rfl
  obtain ⟨a2, e2, w2⟩ := fld_int Tryz.underlying3 q2
  have q3 := hf 3 _ rfl
  obtain ⟨a3, e3, w3⟩ := fld_str Tryz.underlying9 q3
  have q4 := hf 4 _ rfl
  obtain ⟨a4, e4, w4⟩ := fld_str Tryz.underlying9 q4
  have q5 := hf 5 _ rfl
  obtain ⟨a5, e5, w5⟩ := fld_int Tryz.underlying2 q5
  clear hf
  obtain ⟨v0, cs0, rfl⟩ := List.exists_cons_of_length_eq_add_one hcs
  have hc0 : cs0.length = 5 := by simpa using hcs
  obtain ⟨v1, cs1, rfl⟩ := List.exists_cons_of_length_eq_add_one hc0
  have hc1 : cs1.length = 4 := by simpa using hc0
  obtain ⟨v2, cs2, rfl⟩ := List.exists_cons_of_length_eq_add_one hc1
  have hc2 : cs2.length = 3 := by simpa using hc1
  obtain ⟨v3, cs3, rfl⟩ := List.exists_cons_of_length_eq_add_one hc2
  have hc3 : cs3.length = 2 := by simpa using hc2
  obtain ⟨v4, cs4, rfl⟩ := List.exists_cons_of_length_eq_add_one hc3
  have hc4 : cs4.length = 1 := by simpa using hc3
  obtain ⟨v5, cs5, rfl⟩ := List.exists_cons_of_length_eq_add_one hc4
  have hc5 : cs5.length = 0 := by simpa using hc4
  obtain rfl := List.eq_nil_of_length_eq_zero hc5
  have g0 : (([v0, v1, v2, v3, v4, v5] : List Value).drop 0).take (Tryz.prog.cellsOf 3) = [.int .i64 a0] := e0
  rw [c3] at g0
  have k0 := cut_cells _ _ _ g0
  have j0 : v0 = .int .i64 a0 := Option.some.inj k0
  have g1 : (([v0, v1, v2, v3, v4, v5] : List Value).drop 1).take (Tryz.prog.cellsOf 3) = [.int .i64 a1] := e1
  rw [c3] at g1
  have k1 := cut_cells _ _ _ g1
  have j1 : v1 = .int .i64 a1 := Option.some.inj k1
  have g2 : (([v0, v1, v2, v3, v4, v5] : List Value).drop 2).take (Tryz.prog.cellsOf 3) = [.int .i64 a2] := e2
  rw [c3] at g2
  have k2 := cut_cells _ _ _ g2
  have j2 : v2 = .int .i64 a2 := Option.some.inj k2
  have g3 : (([v0, v1, v2, v3, v4, v5] : List Value).drop 3).take (Tryz.prog.cellsOf 9) = [.string a3] := e3
  rw [c9] at g3
  have k3 := cut_cells _ _ _ g3
  have j3 : v3 = .string a3 := Option.some.inj k3
  have g4 : (([v0, v1, v2, v3, v4, v5] : List Value).drop 4).take (Tryz.prog.cellsOf 9) = [.string a4] := e4
  rw [c9] at g4
  have k4 := cut_cells _ _ _ g4
  have j4 : v4 = .string a4 := Option.some.inj k4
  have g5 : (([v0, v1, v2, v3, v4, v5] : List Value).drop 5).take (Tryz.prog.cellsOf 2) = [.int .i64 a5] := e5
  rw [c2] at g5
  have k5 := cut_cells _ _ _ g5
  have j5 : v5 = .int .i64 a5 := Option.some.inj k5
  subst j0 j1 j2 j3 j4 j5
  exact ⟨⟨a0, a1, a2, a3, a4, a5⟩, rfl, w5⟩
end Go.Proofs.YtkcmgcoppecfpaaGreat

