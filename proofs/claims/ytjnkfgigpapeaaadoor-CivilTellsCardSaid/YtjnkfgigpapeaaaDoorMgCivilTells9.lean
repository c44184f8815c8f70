import Derived.Shelf.Strconv.Itoa3
import Derived.Lib.AppendIntMem
import Derived.Lib.ItoaLen
import Derived.Test.YtjnkfgigpapeaaaDoorMgCivilTells6
import Derived.Test.YtjnkfgigpapeaaaDoorMgCivilTells7
import Derived.Test.YtjnkfgigpapeaaaDoorMgCivilTells8
import Derived.Test.YtjnkfgigpapeaaaDoorMgCivilTells5
import Derived.Test.YtjnkfgigpapeaaaDoorMgCivilTells4
import Derived.ChangeSlices
import Derived.OpenShut
import Derived.Carry
import Derived.ProofKit
import Derived.Deep.Grids
import Derived.Deep.Strs
import Derived.Deep.Slices
set_option linter.unusedVariables false
set_option linter.unusedSimpArgs false
set_option linter.unnecessarySimpa false
set_option maxHeartbeats 0
set_option maxRecDepth 100000
/- Dates: texts, moments. -/
namespace Go.Proofs.YtjnkfgigpapeaaaDoor
open Go Go.RowKit
open Go.Lib Go.Shelf
theorem setN_selfD {α : Type 1} {l : Nat} {v : α} : ∀ {h : List α}, nth h l = some v → setN h l v = h := by
  induction l with
  | zero => intro h hl; cases h <;> simp [nth, setN] at hl ⊢; exact hl.symm
  | succ l ih => intro h hl; cases h <;> simp [nth, setN] at hl ⊢; exact ih hl
theorem H.belowD {W w w' : World} {L : List Ch} (h : H W w L) (hb : Below w.heap.size w w') : H W w' L :=
  ⟨h.st.trans ⟨hb.os, hb.tape, hb.output, hb.size⟩, h.nd, fun b o hm => by rw [hb.block b (by have := h.get b o hm; exact (Array.getElem?_eq_some_iff.1 this).1)]; exact h.get b o hm, h.fresh, fun b hm => by rw [hb.block b (Nat.lt_of_lt_of_le hm h.st.size)]; exact h.old b hm⟩
theorem itoa_ok : CtrOk Tryd.prog 34 itoaC := by
  intro args hs N h
  unfold itoaC at h
  split at h
  case h_2 => exact h.elim
  rename_i n
  obtain ⟨⟨h0, h1⟩, he, h⟩ := h
  intro W F w hr
  obtain ⟨c, L, hc, hH, _⟩ := hr.get he
  have ht : TabIs Tryd.prog w "internal/strconv.uint64pow10" .u64 pow10Tab := tabBelow_of_tabIs hc.2 w (Below.of_H hH)
  refine Calls.mono (Any.strconv_Itoa laysItoa n (by omega) h1 w ht) ?_
  rintro e w' ⟨rfl, k, os, rfl⟩
  have hd : Value.string ⟨(itoa n).toArray⟩ = den (.str (dgB n)) := by
    unfold itoa
    rw [if_neg (by omega)]; rfl
  refine ⟨hs, .str (dgB n), h, by rw [hd], hr.move fun L hL => hL.belowD (below_grow _ w (Nat.le_refl _) k os)⟩
theorem Spec.with0 {P : Program} {f : FuncId} {hs : List Ent} {args : List SV} {N : List Ent → SV → Prop} {e : Ent} {v : SV} (he : nth hs 0 = some e) (h : Spec P f [e] args fun h' r => h' = [e] ∧ r = v) (hN : N hs v) : Spec P f hs args N := by
  refine Spec.at (hp := [e]) (args' := args) (Post' := fun h' r => h' = [e] ∧ r = v) [0] rfl (by simp [pickE, he]) h rfl ?_
  rintro h' r ⟨rfl, rfl⟩
  refine ⟨Nat.le_refl _, _, rfl, ?_⟩
  simpa [putBack, setN_selfD he, appE_eq] using hN
theorem two_ok : CtrOk Tryd.prog 35 twoC := by
  intro args hs N h
  unfold twoC at h
  split at h
  case h_2 => exact h.elim
  rename_i n
  obtain ⟨⟨h0, h1⟩, he, h⟩ := h
  refine Spec.with0 he ?_ h
  refine Spec.up ?_
  refine Spec.of_G 10 Tryd.func35 (c := bodyOf Tryd.f35) (by kernel_rfl) (by kernel_rfl) (Nat.le_of_ble_eq_true rfl) fun W F => ?_
  refine G_run (Cs := [(34, itoaC)]) (kc := true) (ss := []) ⟨itoa_ok, trivial⟩ hm 600 ?_
  rw [two_run]
  have hz : (dgB n).size ≤ 100 := by unfold dgB; rw [ba_size]; have := dec_len (u := n.toNat) (by omega); omega
  have fin : ∀ (v : ByteArray) (t : List Ent), v = twoB n → up (fun h' r => h' = [itoaE] ∧ r = .str (twoB n)) (itoaE :: t) (.str v) := fun v t hv => ⟨[itoaE], _, fun W F w hr => Rep.dropR (h := [itoaE]) hr, rfl, rfl, by rw [hv]⟩
  unfold twoB at fin
  cases hd : decide (n < 10) with
  | true => exact ⟨rfl, ⟨h0, by omega⟩, rfl, by omega, fin _ _ (by rw [hd])⟩
  | false => exact ⟨rfl, ⟨h0, by omega⟩, rfl, fin _ _ (by rw [hd])⟩
theorem twoB_size {n : Int} (h0 : 0 ≤ n) (h1 : n < 100) : (twoB n).size ≤ 2 := by rw [twoB_eq h0 h1, ba_size]; simp [two8]
theorem prT_ok : AllOk Tryd.prog prT := ⟨itoa_ok, two_ok, unix_ok, trivial⟩
theorem print_ok : CtrOk Tryd.prog 10 printC := by
  intro args hs N h
  unfold printC at h
  split at h
  case h_2 => exact h.elim
  rename_i y m d hh mi s
  obtain ⟨he, h⟩ := h
  cases hv : isMomB y m d hh mi s with
  | false =>
    rw [hv] at h
    refine Spec.with0 he ?_ h
    refine Spec.up ?_
    refine Spec.of_G 43 Tryd.func10 (c := bodyOf Tryd.f10) (by kernel_rfl) (by kernel_rfl) (Nat.le_of_ble_eq_true rfl) fun W F => ?_
    refine G_run (Cs := prT) (kc := true) (ss := []) prT_ok hm 900 ?_
    rw [pr_run]
    have hv' : (isB y m d && (inB hh 24 && (inB mi 60 && inB s 60))) = false := hv
    rw [hv']
    exact ⟨rfl, fun b => ⟨⟨rfl, rfl⟩, rfl, ⟨[itoaE], _, fun W F w hr => Rep.dropR (h := [itoaE]) hr, rfl, rfl, rfl⟩⟩⟩
  | true =>
    rw [hv] at h
    refine Spec.with0 he ?_ h
    refine Spec.up ?_
    refine Spec.of_G 43 Tryd.func10 (c := bodyOf Tryd.f10) (by kernel_rfl) (by kernel_rfl) (Nat.le_of_ble_eq_true rfl) fun W F => ?_
    refine G_run (Cs := prT) (kc := true) (ss := []) prT_ok hm 900 ?_
    rw [pr_run]
    have hv' : (isB y m d && (inB hh 24 && (inB mi 60 && inB s 60))) = true := hv
    rw [hv']
    obtain ⟨⟨a1, a2, a3, a4, a5, a6⟩, ⟨b1, b2⟩, ⟨c1, c2⟩, d1, d2⟩ := isMomB_iff.1 hv
    have hl := (lenI_le y m).2
    have z1 : (dgB y).size ≤ 4 := by unfold dgB; rw [ba_size]; exact dec_len (by omega)
    have z2 := twoB_size (n := m) (by omega) (by omega)
    have z3 := twoB_size (n := d) (by omega) (by omega)
    have z4 := twoB_size (n := hh) (by omega) (by omega)
    have z5 := twoB_size (n := mi) (by omega) (by omega)
    have z6 := twoB_size (n := s) (by omega) (by omega)
    have zs : ∀ a b : ByteArray, (a ++ b).size = a.size + b.size := fun a b => ByteArray.size_append
    have z0 : ∀ c : UInt8, (⟨#[c]⟩ : ByteArray).size = 1 := fun c => rfl
    have fin : ∀ (v : ByteArray) (t : List Ent), v = printB y m d hh mi s → up (fun h' r => h' = [itoaE] ∧ r = .str (printB y m d hh mi s)) (itoaE :: t) (.str v) := fun v t hv => ⟨[itoaE], _, fun W F w hr => Rep.dropR (h := [itoaE]) hr, rfl, rfl, by rw [hv]⟩
    repeat' first
      | exact rfl
      | exact trivial
      | exact fin _ _ rfl
      | (show ByteArray.size _ + _ ≤ 9223372036854775807; simp only [zs, z0]; omega)
      | apply And.intro
      | (refine fun _ => ?_)
      | (show _ ≤ _; omega)
      | (show _ < _; omega)
      | fail
theorem dg_ok : CtrOk Tryd.prog 53 digitsC := by
  intro args hs N h
  unfold digitsC at h
  split at h
  case h_2 => exact h.elim
  rename_i n
  obtain ⟨⟨h0, h1⟩, h⟩ := h
  refine Spec.pureG 28 Tryd.func53 (by kernel_rfl) (by kernel_rfl) rfl h fun W F => ?_
  refine G_run (Cs := []) (kc := false) (ss := []) trivial hm 600 ?_
  rw [dg_start]
  have hd0 : decide (n < 0) = false := by simp; omega
  have w0 : IntKind.u64.wrap n = ((n.toNat : Nat) : Int) := by rw [IntWalk.u64_in _ (by omega)]; omega
  rw [hd0, w0]
  refine G_loopAt (ι := Nat × List UInt8) [] (bodyOf Tryd.f53) [1, 1, 1, 1, 0, 0] 28 (fun x => [(0, .int .i64 n), (2, .str ⟨#[]⟩), (3, .int .u64 (x.1 : Int)), (4, .str ⟨x.2.toArray⟩)]) (fun _ => []) (fun x => decDigits n.toNat = decDigits x.1 ++ x.2 ∧ x.1 ≤ n.toNat) (fun x => x.1) (n.toNat, []) (by kernel_rfl) (fun J => by kernel_rfl) ⟨by simp, Nat.le_refl _⟩ rfl ⟨rfl, rfl, rfl, rfl, trivial⟩ (fun _ h => h) ?_
  rintro ⟨u, s⟩ ⟨hu, hle⟩ uu
  dsimp only at hu hle
  try dsimp only
  simp only [List.nil_append, List.cons_append]
  refine G_run (Cs := []) (kc := true) (ss := []) trivial hm 600 ?_
  rw [dg_l, hd0]
  have hlen : s.length ≤ 21 := by
    have h2 := itoa_length_le n (by omega) h1
    unfold itoa at h2
    rw [if_neg (by omega), hu, List.length_append] at h2
    omega
  have e1 : (u : Int).tmod 10 = ((u % 10 : Nat) : Int) := by rw [Int.tmod_eq_emod_of_nonneg (by omega)]; omega
  have e2 : IntKind.u64.wrap (48 + ((u % 10 : Nat) : Int)) = ((48 + u % 10 : Nat) : Int) := by rw [IntWalk.u64_in _ (by omega)]; omega
  have e3 : IntKind.u8.wrap ((48 + u % 10 : Nat) : Int) = ((48 + u % 10 : Nat) : Int) := IntWalk.u8_in _ (by omega)
  have e4 : IntKind.u64.wrap ((u : Int).tdiv 10) = ((u / 10 : Nat) : Int) := by rw [Int.tdiv_eq_ediv_of_nonneg (by omega), IntWalk.u64_in _ (by omega)]; omega
  rw [e1, e2, e3, e4]
  have hb : denL [SV.int .u8 ((48 + u % 10 : Nat) : Int)] = [UInt8.ofNat (48 + u % 10)].map (fun c => Value.int .u8 (c.toNat : Int)) := by
    have : (UInt8.ofNat (48 + u % 10)).toNat = 48 + u % 10 := by rw [UInt8.toNat_ofNat']; omega
    simp [denL, den, this]
    omega
  refine ⟨by decide, ⟨rfl, rfl, Nat.zero_lt_one, by decide⟩, fun b => ⟨⟨rfl, rfl⟩, [UInt8.ofNat (48 + u % 10)], hb, by rw [ba_size, ba_size]; simp; omega, by decide, ?_⟩⟩
  rw [ba_app]
  cases hz : (((u / 10 : Nat) : Int) == 0) with
  | true =>
    have hz' : u / 10 = 0 := by simp at hz; omega
    have hs : decDigits n.toNat = UInt8.ofNat (48 + u % 10) :: s := by
      rw [hu, dec_small (by omega), show u % 10 = u by omega]; rfl
    show SV.str _ = SV.str _
    unfold dgB
    rw [hs]; rfl
  | false =>
    have hz' : u / 10 ≠ 0 := by simp at hz; omega
    refine G_back (u / 10, UInt8.ofNat (48 + u % 10) :: s) ⟨?_, by dsimp only; omega⟩ (by dsimp only; omega) rfl ⟨rfl, rfl, rfl, rfl, trivial⟩ (fun w hr => Rep.dropR (h := []) hr)
    dsimp only
    rw [hu, dec_big (by omega), List.append_assoc]; rfl
theorem pad_ok : CtrOk Tryd.prog 41 padC := by
  intro args hs N h
  unfold padC at h
  split at h
  case h_2 => exact h.elim
  rename_i n w
  obtain ⟨⟨h0, h1, h2, h3⟩, h⟩ := h
  refine Spec.pureG 15 Tryd.func41 (by kernel_rfl) (by kernel_rfl) rfl h fun W F => ?_
  refine G_run (Cs := [(53, digitsC)]) (kc := true) (ss := []) ⟨dg_ok, trivial⟩ hm 600 ?_
  rw [pad_start]
  refine ⟨rfl, ⟨h0, by omega⟩, ?_⟩
  have hlen := dec_len (u := n.toNat) (by omega)
  refine G_loopAt (ι := Nat) [] (bodyOf Tryd.f41) [1, 1, 0, 0] 15 (fun k => [(1, .int .i64 w), (5, .str ⟨(List.replicate k (48 : UInt8) ++ decDigits n.toNat).toArray⟩)]) (fun _ => []) (fun k => k ≤ w.toNat - (decDigits n.toNat).length) (fun k => 10 - k) 0 (by kernel_rfl) (fun J => by kernel_rfl) (Nat.zero_le _) rfl ⟨rfl, rfl, trivial⟩ (fun _ h => h) ?_
  intro k hk u
  try dsimp only
  simp only [List.nil_append, List.cons_append]
  refine G_run (Cs := [(53, digitsC)]) (kc := true) (ss := []) ⟨dg_ok, trivial⟩ hm 900 ?_
  rw [pad_l, ba_size]
  have hl : (List.replicate k (48 : UInt8) ++ decDigits n.toNat).length = k + (decDigits n.toNat).length := by simp
  rw [hl]
  cases hlt : decide (((k + (decDigits n.toNat).length : Nat) : Int) < w) with
  | true =>
    simp only [decide_eq_true_eq] at hlt
    refine ⟨by omega, G_back (k + 1) (by omega) (by omega) rfl ⟨rfl, ?_, trivial⟩ (fun _ h => h)⟩
    show Value.string _ = Value.string _
    congr 1
  | false =>
    simp only [decide_eq_false_iff_not] at hlt
    have hk2 : k = w.toNat - (decDigits n.toNat).length := by omega
    show SV.str _ = SV.str _
    unfold padB
    rw [hk2]
theorem padB_size {n w : Int} (h0 : 0 ≤ n) (h1 : n < 10000) (h2 : w ≤ 4) : (padB n w).size ≤ 8 := by
  unfold padB
  rw [ba_size]
  have := dec_len (u := n.toNat) (by omega)
  simp; omega
theorem pr2T_ok : AllOk Tryd.prog pr2T := ⟨dg_ok, pad_ok, im_ok, trivial⟩
theorem print2_ok : CtrOk Tryd.prog 17 print2C := by
  intro args hs N h
  unfold print2C at h
  split at h
  case h_2 => exact h.elim
  rename_i y m d hh mi s
  cases hv : isMomB y m d hh mi s with
  | false =>
    rw [hv] at h
    refine Spec.pure (Cs := pr2T) (kc := true) (ss := []) 900 37 pr2T_ok hm Tryd.func17 (by kernel_rfl) (by kernel_rfl) rfl h fun K => ?_
    rw [pr2_run, hv]
    exact ⟨rfl, fun b => ⟨⟨rfl, rfl⟩, rfl, rfl⟩⟩
  | true =>
    rw [hv] at h
    refine Spec.pure (Cs := pr2T) (kc := true) (ss := []) 900 37 pr2T_ok hm Tryd.func17 (by kernel_rfl) (by kernel_rfl) rfl h fun K => ?_
    rw [pr2_run, hv]
    obtain ⟨⟨a1, a2, a3, a4, a5, a6⟩, ⟨b1, b2⟩, ⟨c1, c2⟩, d1, d2⟩ := isMomB_iff.1 hv
    have hl := (lenI_le y m).2
    have z1 := padB_size (n := y) (w := 4) (by omega) (by omega) (by omega)
    have z2 := padB_size (n := m) (w := 2) (by omega) (by omega) (by omega)
    have z3 := padB_size (n := d) (w := 2) (by omega) (by omega) (by omega)
    have z4 := padB_size (n := hh) (w := 2) (by omega) (by omega) (by omega)
    have z5 := padB_size (n := mi) (w := 2) (by omega) (by omega) (by omega)
    have z6 := padB_size (n := s) (w := 2) (by omega) (by omega) (by omega)
    have zs : ∀ a b : ByteArray, (a ++ b).size = a.size + b.size := fun a b => ByteArray.size_append
    have z0 : ∀ c : UInt8, (⟨#[c]⟩ : ByteArray).size = 1 := fun c => rfl
    rw [Bool.not_true]
    clear h
    repeat' first
      | exact rfl
      | exact trivial
      | (show ByteArray.size _ + _ ≤ 9223372036854775807; simp only [zs, z0]; omega)
      | apply And.intro
      | (refine fun _ => ?_)
      | (show _ ≤ _; omega)
      | (show _ < _; omega)
      | fail
theorem r2T3_ok : AllOk Tryd.prog r2T3 := ⟨days2_ok, date2_ok, im_ok, r2T2_ok⟩
theorem unix2_ok : CtrOk Tryd.prog 20 unixC := by
  intro args hs N h
  unfold unixC at h
  split at h
  case h_2 => exact h.elim
  rename_i y m d hh mi s
  cases hr : isMomB y m d hh mi s with
  | false =>
    have hr' : (isB y m d && (inB hh 24 && (inB mi 60 && inB s 60))) = false := hr
    rw [hr'] at h
    refine Spec.pure (Cs := r2T3) (kc := true) (ss := []) 900 28 r2T3_ok hm Tryd.func20 (by kernel_rfl) (by kernel_rfl) rfl h fun K => ?_
    rw [unix2_run, hr]
    exact ⟨rfl, fun b => ⟨⟨rfl, rfl⟩, rfl, rfl⟩⟩
  | true =>
    have hr' : (isB y m d && (inB hh 24 && (inB mi 60 && inB s 60))) = true := hr
    rw [hr'] at h
    refine Spec.pure (Cs := r2T3) (kc := true) (ss := []) 900 28 r2T3_ok hm Tryd.func20 (by kernel_rfl) (by kernel_rfl) rfl h fun K => ?_
    simp only [Bool.and_eq_true] at hr'
    obtain ⟨h1, h2, h3, h4⟩ := hr'
    have hd := daysI_le h1
    have g2 := inB_iff.1 h2
    have g3 := inB_iff.1 h3
    have g4 := inB_iff.1 h4
    rw [unix2_run, hr, h1]
    refine ⟨rfl, fun b => ⟨⟨rfl, rfl⟩, rfl, ⟨rfl, rfl⟩, rfl, rfl, rfl, rfl, ?_⟩⟩
    simp (disch := omega) only [IntWalk.i64_in]
    have e : daysI y m d * 86400 + (hh * 3600 + mi * 60 + s) = daysI y m d * 86400 + ((hh * 60 + mi) * 60 + s) := by omega
    rw [e]
theorem moment2_ok : CtrOk Tryd.prog 22 momentC := by
  intro args hs N h
  unfold momentC at h
  split at h
  case h_2 => exact h.elim
  rename_i t
  obtain ⟨ht, h⟩ := h
  cases hr : decide (0 ≤ t) && decide (t < 7289654400) with
  | false =>
    rw [hr] at h
    refine Spec.pure (Cs := r2T3) (kc := true) (ss := []) 900 36 r2T3_ok hm Tryd.func22 (by kernel_rfl) (by kernel_rfl) rfl h fun K => ?_
    rw [mom2_run]
    intro b
    simp only [Bool.and_eq_false_iff, decide_eq_false_iff_not] at hr
    cases h0 : decide (t < 0) with
    | true => exact ⟨⟨rfl, rfl⟩, ⟨rfl, rfl, rfl, Nat.le_refl _⟩, ⟨rfl, rfl⟩, rfl⟩
    | false =>
      simp only [decide_eq_false_iff_not] at h0
      have e1 : IntKind.i64.wrap (t.tdiv 86400) = t / 86400 := by rw [Int.tdiv_eq_ediv_of_nonneg (by omega)]; exact IntWalk.i64_in _ (by omega)
      rw [e1]
      refine ⟨by decide, ?_⟩
      cases h2 : decide (t / 86400 > 200000) with
      | true => exact ⟨⟨rfl, rfl⟩, ⟨rfl, rfl, rfl, Nat.le_refl _⟩, ⟨rfl, rfl⟩, rfl⟩
      | false =>
        have h3 : (decide (0 ≤ t / 86400) && decide (t / 86400 < 84371)) = false := by simp; omega
        rw [h3]
        exact ⟨by decide, rfl, by omega, fun b1 => ⟨⟨rfl, rfl, rfl, Nat.le_refl _⟩, ⟨rfl, rfl⟩, ⟨rfl, rfl, rfl, Nat.le_refl _⟩, ⟨rfl, rfl⟩, rfl⟩⟩
  | true =>
    rw [hr] at h
    simp only [Bool.and_eq_true, decide_eq_true_eq] at hr
    obtain ⟨hr0, hr1⟩ := hr
    refine Spec.lift (Φ := fun r => ∃ y m d, dateP (t / 86400) y m d ∧ r = .tuple [.agg [.int .i64 y, .int .i64 m, .int .i64 d, .int .i64 (t % 86400 / 3600), .int .i64 (t % 86400 / 60 % 60), .int .i64 (t % 86400 % 60)], .int .i64 0]) ?_ (by rintro _ ⟨y, m, d, hd, rfl⟩; exact h y m d hd)
    refine Spec.of_G 36 Tryd.func22 (c := bodyOf Tryd.f22) (by kernel_rfl) (by kernel_rfl) (by simp [lenN]) fun W F => ?_
    refine G_run (Cs := r2T3) (kc := true) (ss := []) r2T3_ok hm 900 ?_
    rw [mom2_run]
    intro b
    have h0 : decide (t < 0) = false := by simp; omega
    have e1 : IntKind.i64.wrap (t.tdiv 86400) = t / 86400 := by rw [Int.tdiv_eq_ediv_of_nonneg hr0]; exact IntWalk.i64_in _ (by omega)
    have e2 : t.tmod 86400 = t % 86400 := Int.tmod_eq_emod_of_nonneg hr0
    have hq : 0 ≤ t % 86400 ∧ t % 86400 < 86400 := by omega
    have e3 : IntKind.i64.wrap ((t % 86400).tdiv 3600) = t % 86400 / 3600 := by rw [Int.tdiv_eq_ediv_of_nonneg hq.1]; exact IntWalk.i64_in _ (by omega)
    have e4 : IntKind.i64.wrap ((t % 86400).tdiv 60) = t % 86400 / 60 := by rw [Int.tdiv_eq_ediv_of_nonneg hq.1]; exact IntWalk.i64_in _ (by omega)
    have e5 : (t % 86400 / 60).tmod 60 = t % 86400 / 60 % 60 := Int.tmod_eq_emod_of_nonneg (by omega)
    have e6 : (t % 86400).tmod 60 = t % 86400 % 60 := Int.tmod_eq_emod_of_nonneg hq.1
    have h1 : decide (t / 86400 > 200000) = false := by simp; omega
    have h2 : (decide (0 ≤ t / 86400) && decide (t / 86400 < 84371)) = true := by simp; omega
    rw [e1, e2, e3, e4, e5, e6, h0, h1, h2]
    refine ⟨by decide, by decide, rfl, by omega, fun y m d hd b1 => ?_⟩
    exact ⟨⟨rfl, rfl, rfl, Nat.le_refl _⟩, by decide, ⟨rfl, rfl⟩, by decide, by decide, by decide, by decide, ⟨rfl, rfl⟩, ⟨rfl, rfl, rfl, Nat.le_refl _⟩, ⟨rfl, rfl⟩, y, m, d, hd, rfl⟩
theorem kn2_ok : CtrOk Tryd.prog 8 known2D := by
  intro args hs N h
  unfold known2D at h
  split at h
  case h_2 => exact h.elim
  refine Spec.pure (Cs := [(11, daysC), (15, wdC)]) (kc := true) (ss := []) 600 30 ⟨days_ok, wd_ok, trivial⟩ hm Tryd.func8 (by kernel_rfl) (by kernel_rfl) rfl h fun K => ?_
  rw [kn2_run]
  repeat' first | exact rfl | apply And.intro | (show _ ≤ _; decide) | fail
theorem tellsT_ok : AllOk Tryd.prog tellsT := ⟨kn2_ok, days_ok, days2_ok, is_ok, is2_ok, wd_ok, wd2_ok, print_ok, print2_ok, date_ok, date2_ok, unix_ok, unix2_ok, moment_ok, moment2_ok, trivial⟩
end Go.Proofs.YtjnkfgigpapeaaaDoor

/- CivilTells. -/
namespace Go.Proofs.YtjnkfgigpapeaaaDoor
open Go Go.RowKit
section
variable {W : World} {F : List Ch} {b0 b1 : Nat} {y0 m0 d0 n y m d h mi s t : Int} {st : Sy}
theorem tl15 (ht : t ≤ 9223372036854775807) (h1 : lenN st.tmps = 114) (h2 : liveOk st.tmps [(1, .int .i64 n), (3, .int .i64 t), (4, .ptr 1 b0 0), (6, .ptr 2 b1 0)]) (hh : ∀ w, Rep W F st.heap w → Rep W F [itoaE, ⟨.blk b0, .cells [.int .i64 y0, .int .i64 m0, .int .i64 d0] 23⟩, ⟨.blk b1, .cells [.int .i64 y, .int .i64 m, .int .i64 d, .int .i64 h, .int .i64 mi, .int .i64 s] 25⟩] w) : G Tryd.prog (endQ Tryd.prog Tryd.f4 W F fun _ r => r = .bool true) W F (frmR [] (bodyOf Tryd.f4) 15) st := by
  refine G_live 114 [(1, .int .i64 n), (3, .int .i64 t), (4, .ptr 1 b0 0), (6, .ptr 2 b1 0)] [itoaE, ⟨.blk b0, .cells [.int .i64 y0, .int .i64 m0, .int .i64 d0] 23⟩, ⟨.blk b1, .cells [.int .i64 y, .int .i64 m, .int .i64 d, .int .i64 h, .int .i64 mi, .int .i64 s] 25⟩] h1 h2 hh fun u => ?_
  refine G_run (Cs := tellsT) (kc := true) (ss := []) tellsT_ok hm 2000 ?_
  rw [tl_15]
  cases hr : decide (0 ≤ t) && decide (t < 7289654400) with
  | true =>
    refine ⟨rfl, ht, fun y1 m1 e1 hd1 b2 => ⟨⟨rfl, rfl, rfl, Nat.le_refl _⟩, rfl, ht, fun y2 m2 e2 hd2 b3 => ?_⟩⟩
    obtain ⟨rfl, rfl, rfl⟩ := dateP_unique hd1 hd2
    have e : (y1 == y1 && (m1 == m1 && (e1 == e1 && true)) && (t % 86400 / 3600 == t % 86400 / 3600 && (t % 86400 / 60 % 60 == t % 86400 / 60 % 60 && (t % 86400 % 60 == t % 86400 % 60 && true)))) = true := by simp
    rw [e]
    exact ⟨⟨rfl, rfl, rfl, Nat.le_refl _⟩, ⟨rfl, rfl⟩, ⟨rfl, rfl⟩, rfl⟩
  | false =>
    repeat' first
      | exact rfl
      | exact ht
      | apply And.intro
      | (refine fun _ => ?_)
      | exact Nat.le_refl _
      | fail
theorem tl11 (ht : t ≤ 9223372036854775807) (h1 : lenN st.tmps = 114) (h2 : liveOk st.tmps [(1, .int .i64 n), (3, .int .i64 t), (4, .ptr 1 b0 0), (6, .ptr 2 b1 0)]) (hh : ∀ w, Rep W F st.heap w → Rep W F [itoaE, ⟨.blk b0, .cells [.int .i64 y0, .int .i64 m0, .int .i64 d0] 23⟩, ⟨.blk b1, .cells [.int .i64 y, .int .i64 m, .int .i64 d, .int .i64 h, .int .i64 mi, .int .i64 s] 25⟩] w) : G Tryd.prog (endQ Tryd.prog Tryd.f4 W F fun _ r => r = .bool true) W F (frmR [] (bodyOf Tryd.f4) 11) st := by
  refine G_live 114 [(1, .int .i64 n), (3, .int .i64 t), (4, .ptr 1 b0 0), (6, .ptr 2 b1 0)] [itoaE, ⟨.blk b0, .cells [.int .i64 y0, .int .i64 m0, .int .i64 d0] 23⟩, ⟨.blk b1, .cells [.int .i64 y, .int .i64 m, .int .i64 d, .int .i64 h, .int .i64 mi, .int .i64 s] 25⟩] h1 h2 hh fun u => ?_
  refine G_run (Cs := tellsT) (kc := true) (ss := [15]) tellsT_ok hm 2000 ?_
  rw [tl_11, bne_self_eq_false]
  cases hr : isB y m d && (inB h 24 && (inB mi 60 && inB s 60)) with
  | true => exact ⟨⟨rfl, rfl⟩, rfl, ⟨rfl, rfl⟩, rfl, tl15 ht rfl ⟨rfl, rfl, rfl, rfl, trivial⟩ (fun _ h => h)⟩
  | false => exact ⟨⟨rfl, rfl⟩, rfl, ⟨rfl, rfl⟩, rfl, tl15 ht rfl ⟨rfl, rfl, rfl, rfl, trivial⟩ (fun _ h => h)⟩
theorem tl7 (hn : n ≤ 9223372036854775807) (ht : t ≤ 9223372036854775807) (h1 : lenN st.tmps = 114) (h2 : liveOk st.tmps [(1, .int .i64 n), (3, .int .i64 t), (4, .ptr 1 b0 0), (6, .ptr 2 b1 0)]) (hh : ∀ w, Rep W F st.heap w → Rep W F [itoaE, ⟨.blk b0, .cells [.int .i64 y0, .int .i64 m0, .int .i64 d0] 23⟩, ⟨.blk b1, .cells [.int .i64 y, .int .i64 m, .int .i64 d, .int .i64 h, .int .i64 mi, .int .i64 s] 25⟩] w) : G Tryd.prog (endQ Tryd.prog Tryd.f4 W F fun _ r => r = .bool true) W F (frmR [] (bodyOf Tryd.f4) 7) st := by
  refine G_live 114 [(1, .int .i64 n), (3, .int .i64 t), (4, .ptr 1 b0 0), (6, .ptr 2 b1 0)] [itoaE, ⟨.blk b0, .cells [.int .i64 y0, .int .i64 m0, .int .i64 d0] 23⟩, ⟨.blk b1, .cells [.int .i64 y, .int .i64 m, .int .i64 d, .int .i64 h, .int .i64 mi, .int .i64 s] 25⟩] h1 h2 hh fun u => ?_
  refine G_run (Cs := tellsT) (kc := true) (ss := [11]) tellsT_ok hm 2000 ?_
  rw [tl_7]
  cases hr : decide (0 ≤ n) && decide (n < 84371) with
  | true =>
    refine ⟨rfl, fun y1 m1 e1 hd1 b2 => ⟨⟨rfl, rfl, rfl, Nat.le_refl _⟩, rfl, hn, fun y2 m2 e2 hd2 b3 => ?_⟩⟩
    obtain ⟨rfl, rfl, rfl⟩ := dateP_unique hd1 hd2
    have e : (!(y1 == y1 && (m1 == m1 && (e1 == e1 && true)))) = false := by simp
    rw [e]
    exact ⟨⟨rfl, rfl, rfl, Nat.le_refl _⟩, ⟨rfl, rfl⟩, ⟨rfl, rfl⟩, tl11 ht rfl ⟨rfl, rfl, rfl, rfl, trivial⟩ (fun w hr => Rep.dropR (h := [_, _, _]) hr)⟩
  | false =>
    repeat' first
      | exact rfl
      | exact hn
      | exact tl11 ht rfl ⟨rfl, rfl, rfl, rfl, trivial⟩ (fun w hr => Rep.dropR (h := [_, _, _]) hr)
      | apply And.intro
      | (refine fun _ => ?_)
      | exact Nat.le_refl _
      | fail
theorem tl5 (a e : Int) (hn0 : -9223372036854775808 ≤ n) (hn : n ≤ 9223372036854775807) (ht : t ≤ 9223372036854775807) (h1 : lenN st.tmps = 114) (h2 : liveOk st.tmps [(1, .int .i64 n), (3, .int .i64 t), (4, .ptr 1 b0 0), (6, .ptr 2 b1 0), (9, .int .i64 a), (10, .int .i64 e), (11, .int .i64 a), (12, .int .i64 e)]) (hh : ∀ w, Rep W F st.heap w → Rep W F [itoaE, ⟨.blk b0, .cells [.int .i64 y0, .int .i64 m0, .int .i64 d0] 23⟩, ⟨.blk b1, .cells [.int .i64 y, .int .i64 m, .int .i64 d, .int .i64 h, .int .i64 mi, .int .i64 s] 25⟩] w) : G Tryd.prog (endQ Tryd.prog Tryd.f4 W F fun _ r => r = .bool true) W F (frmR [] (bodyOf Tryd.f4) 5) st := by
  refine G_live 114 [(1, .int .i64 n), (3, .int .i64 t), (4, .ptr 1 b0 0), (6, .ptr 2 b1 0), (9, .int .i64 a), (10, .int .i64 e), (11, .int .i64 a), (12, .int .i64 e)] [itoaE, ⟨.blk b0, .cells [.int .i64 y0, .int .i64 m0, .int .i64 d0] 23⟩, ⟨.blk b1, .cells [.int .i64 y, .int .i64 m, .int .i64 d, .int .i64 h, .int .i64 mi, .int .i64 s] 25⟩] h1 h2 hh fun u => ?_
  refine G_run (Cs := tellsT) (kc := true) (ss := [7]) tellsT_ok hm 2000 ?_
  have hbb : ∀ c : Bool, (!c == c) = false := fun c => by cases c <;> rfl
  have hss : ∀ c : ByteArray, (!sEq c c) = false := fun c => by simp [sEq]
  rw [tl_5, hbb, bne_self_eq_false, bne_self_eq_false, bne_self_eq_false]
  cases hv : isMomB y m d h mi s with
  | true =>
    rw [print_same hv, hss]
    repeat' first
      | exact rfl
      | exact trivial
      | exact tl7 hn ht rfl ⟨rfl, rfl, rfl, rfl, trivial⟩ (fun _ h => h)
      | apply And.intro
      | assumption
      | fail
  | false =>
    repeat' first
      | exact rfl
      | exact trivial
      | exact tl7 hn ht rfl ⟨rfl, rfl, rfl, rfl, trivial⟩ (fun _ h => h)
      | apply And.intro
      | assumption
      | fail
end
theorem tells_ok (y0 m0 d0 n y m d h mi s t : Int) (hn0 : -9223372036854775808 ≤ n) (hn : n ≤ 9223372036854775807) (ht : t ≤ 9223372036854775807) : Spec Tryd.prog 4 [itoaE] [.agg [.int .i64 y0, .int .i64 m0, .int .i64 d0], .int .i64 n, .agg [.int .i64 y, .int .i64 m, .int .i64 d, .int .i64 h, .int .i64 mi, .int .i64 s], .int .i64 t] fun _ r => r = .bool true := by
  refine Spec.of_G 114 Tryd.func4 (c := bodyOf Tryd.f4) (by kernel_rfl) (by kernel_rfl) (Nat.le_of_ble_eq_true rfl) fun W F => ?_
  refine G_run (Cs := tellsT) (kc := true) (ss := [5]) tellsT_ok hm 3000 ?_
  rw [tl_start]
  cases hb : isB y0 m0 d0 with
  | true =>
    repeat' first
      | exact rfl
      | exact trivial
      | exact tl5 _ _ hn0 hn ht rfl ⟨rfl, rfl, rfl, rfl, rfl, rfl, rfl, rfl, trivial⟩ (fun _ h => h)
      | apply And.intro
      | (refine fun _ => ?_)
      | fail
  | false =>
    repeat' first
      | exact rfl
      | exact trivial
      | exact tl5 _ _ hn0 hn ht rfl ⟨rfl, rfl, rfl, rfl, rfl, rfl, rfl, rfl, trivial⟩ (fun _ h => h)
      | apply And.intro
      | (refine fun _ => ?_)
      | fail
end Go.Proofs.YtjnkfgigpapeaaaDoor

/- A law's call with a slice of numbers as1 its argument. -/
namespace Go.Proofs.YtjnkfgigpapeaaaDoor
open Go Go.RowKit Go.ChangeShapes

theorem ro_ints {W : World} {k : IntKind} {a : Addr} {len cap : Nat} {zs : List Int} {enc : Int → List SV} (henc : ∀ x, enc x = [.int k x]) (hl : len ≤ cap) (hz : zs.length = cap) (hcell : ∀ i, i < zs.length → W.cell? (a.add i) = some (.int k (zs.getD i 0))) :
    has W (.sl (some a) cap) (.roL 1 enc (zs.take len) 0) [] := by
  by_cases h0 : len = 0
  · subst h0
    exact ⟨rfl, (fun x => by rw [henc]; rfl), by simp, .inl (by simp)⟩
  · obtain ⟨b, off, rfl, hc⟩ := ints_at hcell (by omega)
    have hc0 := hc 0 (by omega)
    have hc1 : ∃ cur T fr, W.heap[b]? = some (.cells cur T fr) := by
      simp only [World.cell?] at hc0
      split at hc0
      · rename_i cur T fr hh; exact ⟨_, _, _, hh⟩
      · cases hc0
    obtain ⟨cur, T, fr, hb⟩ := hc1
    refine ⟨rfl, (fun x => by rw [henc]; rfl), by simp; omega, .inr ⟨b, off, cur, T, fr, rfl, hb, ?_⟩⟩
    · have hfl : ∀ l : List Int, flatV enc l = l.map fun x => Value.int k x := by
        intro l
        induction l with
        | nil => rfl
        | cons x l ih =>
          have : flatV enc (x :: l) = denL (enc x) ++ flatV enc l := by simp [flatV]
          rw [this, ih, henc]; rfl
      rw [hfl, List.map_take]
      have hlt : (zs.take len).length = len := by simp; omega
      rw [hlt, Nat.mul_one]
      apply List.ext_getElem?
      intro j
      simp only [List.getElem?_take, List.getElem?_drop, List.getElem?_map]
      split
      · rename_i hj
        have h1 := hc j (by omega)
        simp only [World.cell?, hb] at h1
        have h2 : cur.toList[off + j]? = cur[off + j]? := by simp
        simp at h1
        rw [h2, h1]
        have : j < zs.length := by omega
        simp [this]
      · rfl

theorem arg_ints {P : Program} {H : Type} {enc : TypeId × Value → H} {t e : TypeId} {k : IntKind} {fuel : Nat} {W : World} {a0 : Option Addr} {len cap : Nat} {x : DataW H × List MemPlace} {enc' : Int → List SV}
    (henc : ∀ x, enc' x = [.int k x]) (ht : P.underlying t = some (.slice e)) (he : P.underlying e = some (.int k)) (hc : P.cellsOf e = 1)
    (hf : DataW.trod enc P W 0 (fun _ => true) true fuel t [.slice a0 len cap] = some x) :
    ∃ bs : List Int, bs.length = len ∧ (∀ z ∈ bs, (Lit.int k z).wf = true) ∧ has W (.sl a0 cap) (.roL 1 enc' bs 0) [] := by
  rcases open_ints ht he hc hf with ⟨hcs, _⟩ | ⟨a, len', cap', zs, hcs, _, hl, hm, hz, _, hcell, hwz⟩
  · simp only [List.cons.injEq, Value.slice.injEq, and_true] at hcs
    obtain ⟨rfl, rfl, rfl⟩ := hcs
    exact ⟨[], rfl, (fun z hz => by cases hz), rfl, fun x => by rw [henc]; rfl, by simp, .inl rfl⟩
  · simp at hcs
    obtain ⟨rfl, rfl, rfl⟩ := hcs
    simp only [if_true] at hz
    exact ⟨zs.take len, by simp; omega, fun z hz => hwz z (List.mem_of_mem_take hz), ro_ints (k := k) (len := len) henc hl hz hcell⟩

theorem ro_gen {W : World} {α : Type} {a : Addr} {len cap : Nat} {zs : List α} {enc : α → List SV} {sv : α → SV} {d : α} (henc : ∀ x, enc x = [sv x]) (hl : len ≤ cap) (hz : zs.length = cap) (hcell : ∀ i, i < zs.length → W.cell? (a.add i) = some (den (sv (zs.getD i d)))) :
    has W (.sl (some a) cap) (.roL 1 enc (zs.take len) d) [] := by
  by_cases h0 : len = 0
  · subst h0
    exact ⟨rfl, (fun x => by rw [henc]; rfl), by simp, .inl (by simp)⟩
  · obtain ⟨b, off, spot⟩ := a
    have hspot : spot = none := by simpa [Addr.add] using World.cell?_spot (hcell 0 (by omega))
    subst hspot
    have hc : ∀ j, j < zs.length → W.cell? ⟨b, off + j, none⟩ = some (den (sv (zs.getD j d))) := fun j hj => by rw [← Go.WideShapes.add_plain]; exact hcell j hj
    have hc0 := hc 0 (by omega)
    have hc1 : ∃ cur T fr, W.heap[b]? = some (.cells cur T fr) := by
      simp only [World.cell?] at hc0
      split at hc0
      · rename_i cur T fr hh; exact ⟨_, _, _, hh⟩
      · cases hc0
    obtain ⟨cur, T, fr, hb⟩ := hc1
    refine ⟨rfl, (fun x => by rw [henc]; rfl), by simp; omega, .inr ⟨b, off, cur, T, fr, rfl, hb, ?_⟩⟩
    have hfl : ∀ l : List α, flatV enc l = l.map fun x => den (sv x) := by
      intro l
      induction l with
      | nil => rfl
      | cons x l ih =>
        have : flatV enc (x :: l) = denL (enc x) ++ flatV enc l := by simp [flatV]
        rw [this, ih, henc]; rfl
    rw [hfl, List.map_take]
    have hlt : (zs.take len).length = len := by simp; omega
    rw [hlt, Nat.mul_one]
    apply List.ext_getElem?
    intro j
    simp only [List.getElem?_take, List.getElem?_drop, List.getElem?_map]
    split
    · rename_i hj
      have h1 := hc j (by omega)
      simp only [World.cell?, hb] at h1
      have h2 : cur.toList[off + j]? = cur[off + j]? := by simp
      simp at h1
      rw [h2, h1]
      have : j < zs.length := by omega
      simp [this]
    · rfl

theorem arg_bools {P : Program} {H : Type} {enc : TypeId × Value → H} {t e : TypeId} {fuel : Nat} {W : World} {a0 : Option Addr} {len cap : Nat} {x : DataW H × List MemPlace} {enc' : Bool → List SV}
    (henc : ∀ x, enc' x = [.bool x]) (ht : P.underlying t = some (.slice e)) (he : P.underlying e = some .bool) (hc : P.cellsOf e = 1)
    (hf : DataW.trod enc P W 0 (fun _ => true) true fuel t [.slice a0 len cap] = some x) :
    ∃ bs : List Bool, bs.length = len ∧ has W (.sl a0 cap) (.roL 1 enc' bs false) [] := by
  rcases Go.Deep.open_bools ht he hc hf with ⟨hcs, _⟩ | ⟨a, len', cap', B, hcs, _, hl, hm, _, hcell⟩
  · simp only [List.cons.injEq, Value.slice.injEq, and_true] at hcs
    obtain ⟨rfl, rfl, rfl⟩ := hcs
    exact ⟨[], rfl, rfl, fun x => by rw [henc]; rfl, by simp, .inl rfl⟩
  · simp at hcs
    obtain ⟨rfl, rfl, rfl⟩ := hcs
    have hlen : ((List.range cap).map B).length = cap := by simp
    refine ⟨((List.range cap).map B).take len, by simp; omega, ro_gen (sv := SV.bool) henc hl hlen fun i hi => ?_⟩
    rw [hlen] at hi
    rw [hcell i hi]
    simp [List.getD, hi, den]

theorem arg_strs {P : Program} {H : Type} {enc : TypeId × Value → H} {t e : TypeId} {fuel : Nat} {W : World} {a0 : Option Addr} {len cap : Nat} {x : DataW H × List MemPlace} {enc' : ByteArray → List SV}
    (henc : ∀ x, enc' x = [.str x]) (ht : P.underlying t = some (.slice e)) (he : P.underlying e = some .string) (hc : P.cellsOf e = 1)
    (hf : DataW.trod enc P W 0 (fun _ => true) true fuel t [.slice a0 len cap] = some x) :
    ∃ bs : List ByteArray, bs.length = len ∧ (∀ s ∈ bs, s.size ≤ maxLen) ∧ has W (.sl a0 cap) (.roL 1 enc' bs .empty) [] := by
  rcases Go.Deep.open_strs ht he hc hf with ⟨hcs, _⟩ | ⟨a, len', cap', m, S, hcs, _, hl, hm, hmm, _, hcell⟩
  · simp only [List.cons.injEq, Value.slice.injEq, and_true] at hcs
    obtain ⟨rfl, rfl, rfl⟩ := hcs
    exact ⟨[], rfl, (fun s hs => by cases hs), rfl, fun x => by rw [henc]; rfl, by simp, .inl rfl⟩
  · simp at hcs
    obtain ⟨rfl, rfl, rfl⟩ := hcs
    simp only [if_true] at hmm
    subst hmm
    have hlen : ((List.range m).map S).length = m := by simp
    refine ⟨((List.range m).map S).take len, by simp; omega, fun s hs => ?_, ro_gen (sv := SV.str) henc hl hlen fun i hi => ?_⟩
    · obtain ⟨i, hi, rfl⟩ := List.mem_map.1 (List.mem_of_mem_take hs)
      exact (hcell i (List.mem_range.1 hi)).2
    · rw [hlen] at hi
      rw [(hcell i hi).1]
      simp [List.getD, hi, den]

theorem calls_ints {P : Program} {H : Type} {enc : TypeId × Value → H} {f : FuncId} {t e : TypeId} {k : IntKind} {fuel : Nat} {W : World} {a0 : Option Addr} {len cap : Nat} {x : DataW H × List MemPlace} {v : SV} {enc' : Int → List SV}
    (henc : ∀ x, enc' x = [.int k x]) (ht : P.underlying t = some (.slice e)) (he : P.underlying e = some (.int k)) (hc : P.cellsOf e = 1)
    (hf : DataW.trod enc P W 0 (fun _ => true) true fuel t [.slice a0 len cap] = some x)
    (h : ∀ (ao : Option Addr) (bs : List Int) (cap : Nat), (∀ z ∈ bs, (Lit.int k z).wf = true) → Spec P f [⟨.sl ao cap, .roL 1 enc' bs 0⟩] [.vec 0 ao bs.length cap] fun _ r => r = v) :
    Calls P f #[.slice a0 len cap] W fun e W' => e = .returned (den v) ∧ Below W.heap.size W W' := by
  obtain ⟨bs, rfl, hw, hh⟩ := arg_ints henc ht he hc hf
  have h4 := Spec.rowR (W := W) (hs := [⟨.sl a0 cap, .roL 1 enc' bs 0⟩]) (fun e he => by rcases List.mem_singleton.1 he with rfl; exact hh) (h a0 bs cap hw)
  exact h4
end Go.Proofs.YtjnkfgigpapeaaaDoor

/- A law's call with a slice of rows (structs of plain fields) as1 its argument. -/
namespace Go.Proofs.YtjnkfgigpapeaaaDoor
open Go Go.RowKit Go.ChangeShapes

theorem arg_rows {P : Program} {H : Type} {enc : TypeId × Value → H} {t e : TypeId} {fuel : Nat} {W : World} {a0 : Option Addr} {len cap : Nat} {x : DataW H × List MemPlace} {α : Type} {enc' : α → List SV} {sz : Nat} {good : α → Prop} (d : α)
    (henc : ∀ x, (enc' x).length = sz) (ht : P.underlying t = some (.slice e)) (hc : P.cellsOf e = sz) (hpos : 0 < sz)
    (hel : ∀ n cs y, cs.length = sz → DataW.trod enc P W 0 (fun _ => true) true n e cs = some y → ∃ a, cs = denL (enc' a) ∧ good a)
    (hf : DataW.trod enc P W 0 (fun _ => true) true fuel t [.slice a0 len cap] = some x) :
    ∃ bs : List α, bs.length = len ∧ (∀ z ∈ bs, good z) ∧ has W (.sl a0 cap) (.roL sz enc' bs d) [] := by
  rcases Go.Deep.open_slice ht hf with ⟨hcs, _⟩ | ⟨a, len', cap', m, n, D, Pl, hcs, _, hl, hm, hmm, _, hx⟩
  · simp only [List.cons.injEq, Value.slice.injEq, and_true] at hcs
    obtain ⟨rfl, rfl, rfl⟩ := hcs
    exact ⟨[], rfl, (fun z hz => by cases hz), rfl, henc, by simp, .inl rfl⟩
  · simp only [List.cons.injEq, Value.slice.injEq, and_true] at hcs
    obtain ⟨rfl, rfl, rfl⟩ := hcs
    simp only [if_true] at hmm
    subst hmm
    have : Inhabited α := ⟨d⟩
    obtain ⟨A, hA⟩ := Go.Deep.choose_lt (α := α) (p := fun i a' => good a' ∧ ∀ j, j < sz → W.cell? (a.add (i * sz + j)) = (denL (enc' a'))[j]?) (fun i hi => by
      obtain ⟨cs', h1, h2⟩ := hx i hi
      rw [hc] at h1
      obtain ⟨_, hlen, hcell⟩ := World.cells?_some h1
      obtain ⟨a', rfl, hg⟩ := hel _ _ _ hlen h2
      refine ⟨a', hg, fun j hj => ?_⟩
      rw [← Go.Deep.add_add]
      exact hcell j hj)
    refine ⟨(List.range len).map A, by simp, fun z hz => ?_, rfl, henc, by simpa using hl, ?_⟩
    · obtain ⟨i, hi, rfl⟩ := List.mem_map.1 hz
      exact (hA i (by have := List.mem_range.1 hi; omega)).1
    · by_cases h0 : len = 0
      · subst h0; exact .inl rfl
      refine .inr ?_
      obtain ⟨b, off, spot⟩ := a
      have hc0 := (hA 0 (by omega)).2 0 hpos
      have hlt : 0 < (denL (enc' (A 0))).length := by rw [length_denL, henc]; exact hpos
      rw [List.getElem?_eq_getElem hlt] at hc0
      have hspot : spot = none := by simpa [Addr.add] using World.cell?_spot hc0
      subst hspot
      have hcc : ∀ i, i < m → ∀ j, j < sz → W.cell? ⟨b, off + (i * sz + j), none⟩ = (denL (enc' (A i)))[j]? := fun i hi j hj => by rw [← Go.WideShapes.add_plain]; exact (hA i hi).2 j hj
      have hc1 : ∃ cur T fr, W.heap[b]? = some (.cells cur T fr) := by
        have hc0 := hcc 0 (by omega) 0 hpos
        rw [List.getElem?_eq_getElem hlt] at hc0
        simp only [World.cell?] at hc0
        split at hc0
        · rename_i cur T fr hh; exact ⟨_, _, _, hh⟩
        · cases hc0
      obtain ⟨cur, T, fr, hb⟩ := hc1
      refine ⟨b, off, cur, T, fr, rfl, hb, ?_⟩
      have hfl : (flatV enc' ((List.range len).map A)).length = len * sz := by rw [length_flatV henc]; simp
      apply List.ext_getElem?
      intro q
      rw [List.getElem?_take, List.getElem?_drop]
      split
      · rename_i hq
        have hq : q < len * sz := by simpa using hq
        have hi : q / sz < len := (Nat.div_lt_iff_lt_mul hpos).2 hq
        have hj : q % sz < sz := Nat.mod_lt _ hpos
        have hqe : q = q / sz * sz + q % sz := by rw [Nat.mul_comm]; exact (Nat.div_add_mod q sz).symm
        have h1 := hcc (q / sz) (by omega) (q % sz) hj
        rw [hqe, flatV_get henc d _ _ _ (by simpa using hi) hj, ← hqe]
        simp only [List.getD, List.getElem?_map, List.getElem?_range hi, Option.map_some, Option.getD_some]
        rw [← h1, ← hqe]
        simp [World.cell?, hb]
      · rename_i hq
        have hq : ¬ q < len * sz := by simpa using hq
        rw [List.getElem?_eq_none (by omega)]

theorem fld_int {P : Program} {H : Type} {enc : TypeId × Value → H} {W : World} {n : Nat} {t : TypeId} {cs : List Value} {y : DataW H × List MemPlace} {k : IntKind} (ht : P.underlying t = some (.int k)) (h : DataW.trod enc P W 0 (fun _ => true) true n t cs = some y) : ∃ z, cs = [.int k z] ∧ (Lit.int k z).wf = true := by
  obtain ⟨z, h1, _, h2⟩ := DataW.trod_int ht h
  exact ⟨z, h1, h2⟩
theorem fld_str {P : Program} {H : Type} {enc : TypeId × Value → H} {W : World} {n : Nat} {t : TypeId} {cs : List Value} {y : DataW H × List MemPlace} (ht : P.underlying t = some .string) (h : DataW.trod enc P W 0 (fun _ => true) true n t cs = some y) : ∃ s : ByteArray, cs = [.string s] ∧ s.size ≤ maxLen := by
  obtain ⟨z, h1, _, h2⟩ := DataW.trod_string ht h
  exact ⟨z, h1, h2⟩
theorem fld_bool {P : Program} {H : Type} {enc : TypeId × Value → H} {W : World} {n : Nat} {t : TypeId} {cs : List Value} {y : DataW H × List MemPlace} (ht : P.underlying t = some .bool) (h : DataW.trod enc P W 0 (fun _ => true) true n t cs = some y) : ∃ s : Bool, cs = [.bool s] := by
  obtain ⟨z, h1, _⟩ := DataW.trod_bool ht h
  exact ⟨z, h1⟩
theorem cut_cells : ∀ (cs : List Value) (i : Nat) (v : Value), (cs.drop i).take 1 = [v] → cs[i]? = some v
  | [], i, v, h => by simp at h
  | c :: cs, 0, v, h => by simp at h; simp [h]
  | c :: cs, i + 1, v, h => by simpa using cut_cells cs i v (by simpa using h)
end Go.Proofs.YtjnkfgigpapeaaaDoor

/- Dates and moments as1 arguments. -/
namespace Go.Proofs.YtjnkfgigpapeaaaDoor
open Go Go.RowKit
open Go.ChangeShapes
structure Dt where
  (y m d : Int)
def encDt (a : Dt) : List SV := [.int .i64 a.y, .int .i64 a.m, .int .i64 a.d]
structure Mt where
  (y m d h mi s : Int)
def encMt (a : Mt) : List SV := [.int .i64 a.y, .int .i64 a.m, .int .i64 a.d, .int .i64 a.h, .int .i64 a.mi, .int .i64 a.s]
theorem date_row0 {H : Type} {enc : TypeId × Value → H} {W : World} (n : Nat) (cs : List Value) (y : DataW H × List MemPlace) (hcs : cs.length = 3) (h : DataW.trod enc Tryd.prog W 0 (fun _ => true) true n 23 cs = some y) : ∃ a, cs = denL (encDt a) ∧ True := by
  obtain ⟨xs, m, _, _, hl, hlen, hf⟩ := DataW.trod_struct Tryd.underlying23 h
  have hlen : xs.length = 3 := hlen
  match xs, hlen with
  | [y0, y1, y2], _ =>
  have c3 : Tryd.prog.cellsOf 3 = 1 := by kernel_rfl
  have c9 : True := trivial
  have c4 : True := trivial
  have q0 := hf 0 _ rfl
  obtain ⟨a0, e0, w0⟩ := fld_int Tryd.underlying3 q0
  have q1 := hf 1 _ rfl
  obtain ⟨a1, e1, w1⟩ := fld_int Tryd.underlying3 q1
  have q2 := hf 2 _ rfl
  obtain ⟨a2, e2, w2⟩ := fld_int Tryd.underlying3 q2
  clear hf
  obtain ⟨v0, cs0, rfl⟩ := List.exists_cons_of_length_eq_add_one hcs
  have hc0 : cs0.length = 2 := by simpa using hcs
  obtain ⟨v1, cs1, rfl⟩ := List.exists_cons_of_length_eq_add_one hc0
  have hc1 : cs1.length = 1 := by simpa using hc0
  obtain ⟨v2, cs2, rfl⟩ := List.exists_cons_of_length_eq_add_one hc1
  have hc2 : cs2.length = 0 := by simpa using hc1
  obtain rfl := List.eq_nil_of_length_eq_zero hc2
  have g0 : (([v0, v1, v2] : List Value).drop 0).take (Tryd.prog.cellsOf 3) = [.int .i64 a0] := e0
  rw [c3] at g0
  have k0 := cut_cells _ _ _ g0
  have j0 : v0 = .int .i64 a0 := Option.some.inj k0
  have g1 : (([v0, v1, v2] : List Value).drop 1).take (Tryd.prog.cellsOf 3) = [.int .i64 a1] := e1
  rw [c3] at g1
  have k1 := cut_cells _ _ _ g1
  have j1 : v1 = .int .i64 a1 := Option.some.inj k1
  have g2 : (([v0, v1, v2] : List Value).drop 2).take (Tryd.prog.cellsOf 3) = [.int .i64 a2] := e2
  rw [c3] at g2
  have k2 := cut_cells _ _ _ g2
  have j2 : v2 = .int .i64 a2 := Option.some.inj k2
  subst j0 j1 j2
  exact ⟨⟨a0, a1, a2⟩, rfl, trivial⟩
theorem date_row {H : Type} {enc : TypeId × Value → H} {W : World} (n : Nat) (cs : List Value) (y : DataW H × List MemPlace) (hcs : cs.length = 3) (h : DataW.trod enc Tryd.prog W 0 (fun _ => true) true n 23 cs = some y) : ∃ a, cs = denL (encDt a) := by
  obtain ⟨a, h1, _⟩ := date_row0 n cs y hcs h
  exact ⟨a, h1⟩
theorem mom_row {H : Type} {enc : TypeId × Value → H} {W : World} (n : Nat) (cs : List Value) (y : DataW H × List MemPlace) (hcs : cs.length = 6) (h : DataW.trod enc Tryd.prog W 0 (fun _ => true) true n 25 cs = some y) : ∃ a, cs = denL (encMt a) := by
  obtain ⟨xs, m, _, _, hl, hlen, hf⟩ := DataW.trod_struct Tryd.underlying25 h
  have hlen : xs.length = 4 := hlen
  match xs, hlen with
  | [y0, y1, y2, y3], _ =>
  have cD : Tryd.prog.cellsOf 23 = 3 := by kernel_rfl
  have c3 : Tryd.prog.cellsOf 3 = 1 := by kernel_rfl
  have q0 := hf 0 _ rfl
  have q1 := hf 1 _ rfl
  have q2 := hf 2 _ rfl
  have q3 := hf 3 _ rfl
  clear hf
  have g0 : ((cs.drop 0).take (Tryd.prog.cellsOf 23)).length = 3 := by rw [cD]; simp [hcs]
  obtain ⟨a, e0⟩ := date_row m _ _ g0 q0
  obtain ⟨a1, e1, w1⟩ := fld_int Tryd.underlying3 q1
  obtain ⟨a2, e2, w2⟩ := fld_int Tryd.underlying3 q2
  obtain ⟨a3, e3, w3⟩ := fld_int Tryd.underlying3 q3
  have f0 : (cs.drop 0).take 3 = denL (encDt a) := by rw [← cD]; exact e0
  have f1 : (cs.drop 3).take 1 = [.int .i64 a1] := by rw [← c3]; exact e1
  have f2 : (cs.drop 4).take 1 = [.int .i64 a2] := by rw [← c3]; exact e2
  have f3 : (cs.drop 5).take 1 = [.int .i64 a3] := by rw [← c3]; exact e3
  obtain ⟨v0, cs0, rfl⟩ := List.exists_cons_of_length_eq_add_one hcs
  have hc0 : cs0.length = 5 := by simpa using hcs
  obtain ⟨v1, cs1, rfl⟩ := List.exists_cons_of_length_eq_add_one hc0
  have hc1 : cs1.length = 4 := by simpa using hc0
  obtain ⟨v2, cs2, rfl⟩ := List.exists_cons_of_length_eq_add_one hc1
  have hc2 : cs2.length = 3 := by simpa using hc1
  obtain ⟨v3, cs3, rfl⟩ := List.exists_cons_of_length_eq_add_one hc2
  have hc3 : cs3.length = 2 := by simpa using hc2
  obtain ⟨v4, cs4, rfl⟩ := List.exists_cons_of_length_eq_add_one hc3
  have hc4 : cs4.length = 1 := by simpa using hc3
  obtain ⟨v5, cs5, rfl⟩ := List.exists_cons_of_length_eq_add_one hc4
  have hc5 : cs5.length = 0 := by simpa using hc4
  obtain rfl := List.eq_nil_of_length_eq_zero hc5
  obtain ⟨yy, mm, dd⟩ := a
  simp [denL, encDt, den] at f0 f1 f2 f3
  obtain ⟨rfl, rfl, rfl⟩ := f0
  subst f1; subst f2; subst f3
  exact ⟨⟨yy, mm, dd, a1, a2, a3⟩, rfl⟩
end Go.Proofs.YtjnkfgigpapeaaaDoor

