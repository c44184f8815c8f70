/- GroupNotes. -/
import Derived.Test.YtjnkfgigpapeaaaGn1Run
import Derived.Test.YtjnkfgigpapeaaaGn2Run
import Derived.Test.YtjnkfgigpapeaaaGnP
namespace Go.Proofs.Ytjnkfgigpapeaaa
open Go Go.RowKit
set_option linter.unusedVariables false
set_option linter.unusedSimpArgs false
set_option linter.unnecessarySimpa false
set_option maxHeartbeats 0

theorem gTb_ok : AllOk Try.prog gTb := ⟨gNew_ok, gMake_ok, gPut_ok, gGone_ok, gRemove_ok, gEmptied_ok, trivial⟩

theorem gOk_lit {s : Grp} {pid : Int} (h : s.notes.length ≤ 100000000) (h2 : (match mget s.of (.i .i64 pid) with | none => true | some n => (mget s.gs (.s n)).isSome) = true) : gOk s pid := by
  refine ⟨h, fun n hn => ?_⟩
  rw [hn] at h2
  exact Option.isSome_iff_exists.1 h2
theorem known9_ok : CtrOk Try.prog 46 trueC := by
  intro args hs N h
  unfold trueC at h
  split at h
  · refine Spec.lift (Φ := fun r => r = .bool true) ?_ (fun r hr => by rw [hr]; exact h)
    refine Spec.of_G 53 Try.func46 (c := bodyOf Try.f46) (by kernel_rfl) (by kernel_rfl) (Nat.le_of_ble_eq_true rfl) fun W F => ?_
    refine G_run (kc := false) (ss := []) gTb_ok hmG 3000 ?_
    rw [known9]
    repeat' first
      | exact rfl
      | exact HEq.rfl
      | exact gOk_lit (Nat.le_of_ble_eq_true rfl) rfl
      | (show List.Pairwise _ _; simp; done)
      | (refine fun _ => ?_)
      | apply And.intro
      | (refine ⟨rfl, ?_⟩)
      | fail
  · exact h.elim
theorem gTk_ok : AllOk Try.prog gTk := ⟨known9_ok, gTb_ok⟩

def agF (m : Int) (k : Nat) : Bool := (Int.tmod (Int.fdiv m ((2 : Int) ^ min (Int.toNat ((k : Nat) : Int)) 8)) (2 : Int) == (1 : Int))
def lawL (ag rm : Nat → Bool) (seen : List Nat) : List ByteArray := (seen.filter fun k => !ag k && !rm k).map nm
def doneL (seen : List Nat) : List Bool := (List.range 8).map fun k => decide (k ∈ seen)
theorem doneL_get (seen : List Nat) {k : Nat} (hk : k < 8) : (doneL seen).getD k false = decide (k ∈ seen) := by simp [doneL, List.getD, hk]
theorem doneL_set (seen : List Nat) {k : Nat} (hk : k < 8) : (doneL seen).set k true = doneL (seen ++ [k]) := by
  refine List.ext_getElem (by simp [doneL]) fun j h1 h2 => ?_
  rw [List.getElem_set]
  simp only [doneL, List.getElem_map, List.getElem_range]
  by_cases hjk : k = j
  · subst hjk; simp
  · have : ¬ j = k := fun e => hjk e.symm
    simp [hjk, this]
theorem lawL_snoc (ag rm : Nat → Bool) (seen : List Nat) (k : Nat) : lawL ag rm (seen ++ [k]) = lawL ag rm seen ++ if !ag k && !rm k then [nm k] else [] := by
  unfold lawL
  rw [List.filter_append, List.map_append]
  congr 1
  cases hq : (!ag k && !rm k) <;> simp [List.filter_cons, hq]
theorem lawL_len {s : Grp} {ag rm : Nat → Bool} {seen : List Nat} (h : GI s 8 ag rm seen) : (lawL ag rm seen).length ≤ 8 := by
  unfold lawL
  rw [List.length_map]
  exact Nat.le_trans (List.length_filter_le _ _) h.short
theorem drop_filter (ag : Nat → Bool) : ∀ rem : List Nat, rem.filter (fun k => !ag k) = match rem.dropWhile ag with | [] => [] | k :: l => k :: l.filter fun k => !ag k
  | [] => rfl
  | k :: l => by
    simp only [List.dropWhile_cons, List.filter_cons]
    cases ha : ag k with
    | true => simpa using drop_filter ag l
    | false => simp

section
variable {ao : Option Addr} {cap : Nat} {bs : List Int} {again removed : Int} {b d : Nat} {W : World} {F : List Ch}
abbrev gnQ (ao : Option Addr) (cap : Nat) (bs : List Int) (W : World) (F : List Ch) := endQ Try.prog Try.f11 W F fun _ r => r = .bool true
structure G2 where
  (i : Nat) (s : Grp) (seen : List Nat) (an : Option Addr) (cn : Nat)
structure G3 where
  (i : Nat) (s : Grp) (rem : List Nat)
def gnL2 (ao : Option Addr) (cap : Nat) (bs : List Int) (again removed : Int) (b d : Nat) (x : G2) : List (Nat × SV) := [(0, .vec 0 ao bs.length cap), (1, .int .u8 again), (2, .int .u8 removed), (7, .ptr 1 b 0), (8, .str names8), (9, .vec 3 x.an (lawL (agF again) (agF removed) x.seen).length x.cn), (10, .ptr 2 d 0), (12, .int .i64 (x.i : Int))]
def gnH2 (ao : Option Addr) (cap : Nat) (bs : List Int) (again removed : Int) (b d : Nat) (x : G2) : List Ent := [⟨.sl ao cap, .roL 1 encU8 bs 0⟩, pkA b grpE x.s, ⟨.sl (some ⟨d, 0, none⟩) 8, .vecL 86 1 encB (doneL x.seen) false⟩, ⟨.sl x.an x.cn, .vecL 9 1 encS (lawL (agF again) (agF removed) x.seen) ByteArray.empty⟩]
def gnP2 (bs : List Int) (again removed : Int) (x : G2) : Prop := x.i ≤ bs.length ∧ GI x.s 8 (agF again) (agF removed) x.seen

theorem gn_l3_ok (seen : List Nat) (s0 : Grp) (an : Option Addr) (cn : Nat) (h0 : GI s0 8 (agF again) (agF removed) seen) (u : Nat → Value) (i12 : Nat) :
    G Try.prog (gnQ ao cap bs W F) W F (frm [] (bodyOf Try.f11) [1, 1, 1, 1, 1, 1, 1, 1, 1, 0, 1, 0] []) ⟨mkT u 147 0 [(0, .vec 0 ao bs.length cap), (1, .int .u8 again), (2, .int .u8 removed), (7, .ptr 1 b 0), (8, .str names8), (9, .vec 3 an (lawL (agF again) (agF removed) seen).length cn), (10, .ptr 2 d 0), (14, .int .i64 0)], gnH2 ao cap bs again removed b d ⟨i12, s0, seen, an, cn⟩⟩ := by
  have hll := lawL_len h0
  refine G_loopAt (ι := G3) [] (bodyOf Try.f11) [1, 1, 1, 1, 1, 1, 1, 1, 1, 0, 1, 0] 147 (fun x => [(0, .vec 0 ao bs.length cap), (1, .int .u8 again), (2, .int .u8 removed), (7, .ptr 1 b 0), (8, .str names8), (9, .vec 3 an (lawL (agF again) (agF removed) seen).length cn), (10, .ptr 2 d 0), (14, .int .i64 (x.i : Int))]) (fun x => gnH2 ao cap bs again removed b d ⟨i12, x.s, seen, an, cn⟩)
    (fun x => x.i ≤ (lawL (agF again) (agF removed) seen).length ∧ GI { s0 with notes := s0.notes } 8 (agF again) (agF removed) seen ∧ x.s.gs = s0.gs ∧ x.s.notes = x.rem.map nm ∧ (∀ k ∈ x.rem, k ∈ seen ∧ (agF again k || !agF removed k) = true) ∧ (x.rem.filter fun k => !agF again k).map nm = (lawL (agF again) (agF removed) seen).drop x.i)
    (fun x => (lawL (agF again) (agF removed) seen).length - x.i) ⟨0, s0, seen.filter fun k => agF again k || !agF removed k⟩ (by kernel_rfl) (fun J => by kernel_rfl)
    ⟨Nat.zero_le _, h0, rfl, h0.nt, fun k hk => List.mem_filter.1 hk, ?_⟩ rfl ⟨rfl, rfl, rfl, rfl, rfl, rfl, rfl, rfl, trivial⟩ (fun w hw => hw) ?_
  · dsimp only
    rw [List.filter_filter, List.drop_zero]
    unfold lawL
    congr 1
    refine List.filter_congr fun k _ => ?_
    cases agF again k <;> cases agF removed k <;> rfl
  rintro ⟨i, s, rem⟩ ⟨h1, _, h3, h4, h5, h6⟩ u
  dsimp only at h1 h3 h4 h5 h6 ⊢
  simp only [List.nil_append, List.cons_append]
  unfold gnH2
  refine G_run (kc := false) (ss := []) gTk_ok hmG 1500 ?_
  dsimp only
  rw [gn_l3]
  have hfe := firstEmpty_rest h0 rem h5
  have hdf := drop_filter (agF again) rem
  rw [hdf] at h6
  cases hlt : decide ((i : Int) < ((lawL (agF again) (agF removed) seen).length : Int)) with
  | false =>
    simp only [decide_eq_false_iff_not] at hlt
    rw [List.drop_of_length_le (by omega)] at h6
    refine ⟨rfl, rfl, rfl, HEq.rfl, fun ao1 cap1 => ?_⟩
    have : (gEmptied s ao1 cap1).2 = none := by
      simp only [gEmptied, h3, h4, hfe]
      cases hd : rem.dropWhile (agF again) with
      | nil => rfl
      | cons k l => rw [hd] at h6; simp at h6
    rw [this]
    rfl
  | true =>
    simp only [decide_eq_true_eq] at hlt
    have hi : i < (lawL (agF again) (agF removed) seen).length := by omega
    rw [List.drop_eq_getElem_cons hi] at h6
    cases hd : rem.dropWhile (agF again) with
    | nil => rw [hd] at h6; exact (List.cons_ne_nil _ _ h6.symm).elim
    | cons k l =>
      rw [hd] at h6 hfe
      simp only [List.map_cons, List.cons.injEq] at h6
      refine ⟨rfl, rfl, rfl, HEq.rfl, fun ao1 cap1 => ?_⟩
      have e2 : (gEmptied s ao1 cap1).2 = some (nm k) := by simp only [gEmptied, h3, h4, hfe]
      rw [e2]
      have t1 : Int.toNat (i : Int) = i := by omega
      have t2 : IntKind.wrap .i64 ((i : Int) + 1) = ((i + 1 : Nat) : Int) := IntWalk.i64_in _ (by omega)
      rw [t1, t2]
      refine ⟨⟨rfl, rfl, rfl, by omega, by omega⟩, ⟨rfl, rfl, rfl, hi⟩, ?_⟩
      have hk : k < 8 := h0.lt k (h5 k (by
        have : k ∈ rem.dropWhile (agF again) := by rw [hd]; exact List.mem_cons_self
        exact List.dropWhile_subset _ this)).1
      have e3 : (!sEq (nm k) ((lawL (agF again) (agF removed) seen).getD i ByteArray.empty)) = false := by
        rw [getD_lt _ _ _ hi, ← h6.1, sEq_self]; rfl
      show (match !sEq (nm k) ((lawL (agF again) (agF removed) seen).getD i ByteArray.empty) with | true => _ | false => _)
      rw [e3]
      refine G_back ⟨i + 1, (gEmptied s ao1 cap1).1, l⟩ ⟨by dsimp only; omega, h0, ?_, ?_, ?_, h6.2⟩ (by dsimp only; omega) rfl ⟨rfl, rfl, rfl, rfl, rfl, rfl, rfl, rfl, trivial⟩ (fun w hw => hw)
      · simpa [gEmptied] using h3
      · simp only [gEmptied, h3, h4, hfe]
      · intro j hj
        exact h5 j (List.dropWhile_subset _ (by rw [hd]; exact List.mem_cons_of_mem _ hj))

theorem gn_k_ok (hb : ∀ z ∈ bs, 0 ≤ z ∧ z ≤ 255) (h8 : bs.length ≤ 8) (i k : Nat) (s : Grp) (seen : List Nat) (an : Option Addr) (cn : Nat) (hi : i < bs.length) (hk : k < 8) (h : GI s 8 (agF again) (agF removed) seen) (u : Nat → Value) :
    G Try.prog (gnQ ao cap bs W F) W F (frmR [Back W F 147 (gnL2 ao cap bs again removed b d) (gnH2 ao cap bs again removed b d) (gnP2 bs again removed) (fun x => bs.length - x.i) (bs.length - i)] (bodyOf Try.f11) 18) ⟨mkT u 147 0 [(0, .vec 0 ao bs.length cap), (1, .int .u8 again), (2, .int .u8 removed), (7, .ptr 1 b 0), (8, .str names8), (9, .vec 3 an (lawL (agF again) (agF removed) seen).length cn), (10, .ptr 2 d 0), (12, .int .i64 (i : Int)), (13, .int .i64 (k : Int))], gnH2 ao cap bs again removed b d ⟨i, s, seen, an, cn⟩⟩ := by
  have hll := lawL_len h
  unfold gnH2
  dsimp only
  refine G_run (kc := false) (ss := []) gTk_ok hmG 1500 ?_
  rw [gn_k]
  have t1 : Int.toNat (k : Int) = k := by omega
  have t2 : IntKind.wrap .i64 ((k : Int) + 2) = (k : Int) + 2 := IntWalk.i64_in _ (by omega)
  have t3 : IntKind.wrap .i64 ((k : Int) + 20) = (k : Int) + 20 := IntWalk.i64_in _ (by omega)
  have t4 : IntKind.wrap .i64 ((k : Int) + 1) = (k : Int) + 1 := IntWalk.i64_in _ (by omega)
  have t5 : IntKind.wrap .i64 ((i : Int) + 1) = ((i + 1 : Nat) : Int) := IntWalk.i64_in _ (by omega)
  have t6 : ByteArray.extract names8 (Int.toNat (k : Int)) (Int.toNat ((k : Int) + 1)) = nm k := by
    rw [t1, show Int.toNat ((k : Int) + 1) = k + 1 by omega]; rfl
  have hdl : (doneL seen).length = 8 := by simp [doneL]
  rw [t2, t3, t4, t5, t6]
  have a1 : (Int.tmod (Int.fdiv again ((2 : Int) ^ min (Int.toNat ((k : Nat) : Int)) 8)) (2 : Int) == (1 : Int)) = agF again k := rfl
  have a2 : (Int.tmod (Int.fdiv removed ((2 : Int) ^ min (Int.toNat ((k : Nat) : Int)) 8)) (2 : Int) == (1 : Int)) = agF removed k := rfl
  rw [a1, a2, t1]
  refine ⟨⟨rfl, rfl, hdl.symm, by omega, by omega⟩, ⟨rfl, rfl, rfl, by omega⟩, ?_⟩
  rw [doneL_get seen hk]
  cases hs : decide (k ∈ seen) with
  | true =>
    refine G_back ⟨i + 1, s, seen, an, cn⟩ ⟨by dsimp only; omega, h⟩ (by dsimp only; omega) rfl ⟨rfl, rfl, rfl, rfl, rfl, rfl, rfl, rfl, trivial⟩ (fun w hw => hw)
  | false =>
    have hs : k ∉ seen := by simpa using hs
    refine ⟨⟨rfl, rfl, hdl.symm, by omega, by omega⟩, ⟨rfl, rfl, rfl, by omega, rfl, rfl, Nat.le_refl _⟩, true, rfl, rfl, rfl, rfl, HEq.rfl, (h.okp hk).1, fun ao1 cap1 => ?_⟩
    rw [doneL_set seen hk]
    have hg2 : (gGone s ((k : Int) + 2) ao1 cap1).2 = true := by
      obtain ⟨nb, hg⟩ := h.gone hk hs
      rw [hg]
    rw [hg2]
    have hsn := lawL_snoc (agF again) (agF removed) seen k
    refine ⟨by omega, by decide, ?_⟩
    cases ha : agF again k with
    | true =>
      obtain ⟨_, q1, q2, q3⟩ := h.again hk hs ha ao1 cap1
      refine ⟨⟨by omega, by omega, by show _ ≤ (8 : Int); omega⟩, rfl, rfl, rfl, HEq.rfl, ⟨q1, q2⟩, fun ao2 cap2 => ?_⟩
      obtain ⟨r1, r2, r3, r4⟩ := q3 ao2 cap2
      rw [r1]
      refine ⟨⟨by omega, by omega, by show _ ≤ (8 : Int); omega⟩, rfl, rfl, rfl, HEq.rfl, r2, ?_⟩
      rw [r3]
      have e : lawL (agF again) (agF removed) (seen ++ [k]) = lawL (agF again) (agF removed) seen := by rw [hsn, ha]; simp
      refine G_back ⟨i + 1, _, seen ++ [k], an, cn⟩ ⟨by dsimp only; omega, r4⟩ (by dsimp only; omega) rfl ⟨rfl, rfl, rfl, rfl, rfl, (by show Value.slice an _ cn = Value.slice an _ cn; rw [e]), rfl, rfl, trivial⟩ (fun w hw => by dsimp only; rw [e]; exact hw)
    | false =>
      refine ⟨by omega, by decide, ?_⟩
      cases hr : agF removed k with
      | true =>
        obtain ⟨_, q1, q2, q3⟩ := h.remove hk hs ha hr ao1 cap1
        refine ⟨⟨by omega, by omega, by show _ ≤ (8 : Int); omega⟩, rfl, rfl, rfl, HEq.rfl, q1, ?_⟩
        rw [q2]
        have e : lawL (agF again) (agF removed) (seen ++ [k]) = lawL (agF again) (agF removed) seen := by rw [hsn, ha, hr]; simp
        refine G_back ⟨i + 1, _, seen ++ [k], an, cn⟩ ⟨by dsimp only; omega, q3⟩ (by dsimp only; omega) rfl ⟨rfl, rfl, rfl, rfl, rfl, (by show Value.slice an _ cn = Value.slice an _ cn; rw [e]), rfl, rfl, trivial⟩ (fun w hw => by dsimp only; rw [e]; exact hw)
      | false =>
        obtain ⟨_, q1⟩ := h.plain hk hs ha hr ao1 cap1
        refine ⟨⟨by omega, by omega, by show _ ≤ (8 : Int); omega⟩, ⟨rfl, rfl, by decide, by decide⟩, fun b1 => ⟨⟨rfl, rfl, rfl, rfl, rfl, rfl, rfl, by decide, rfl, by omega, by omega⟩, [nm k], rfl, rfl, fun ao2 cap2 hc => ?_⟩⟩
        have e : lawL (agF again) (agF removed) (seen ++ [k]) = lawL (agF again) (agF removed) seen ++ [nm k] := by rw [hsn, ha, hr]; simp
        have el : (lawL (agF again) (agF removed) (seen ++ [k])).length = (lawL (agF again) (agF removed) seen).length + 1 := by rw [e]; simp
        refine G_back ⟨i + 1, _, seen ++ [k], ao2, cap2⟩ ⟨by dsimp only; omega, q1⟩ (by dsimp only; omega) rfl ⟨rfl, rfl, rfl, rfl, rfl, (by show Value.slice ao2 _ cap2 = Value.slice ao2 _ cap2; rw [el]), rfl, rfl, trivial⟩ (fun w hw => by dsimp only; rw [e]; exact hw.front ⟨rfl, rfl, rfl, rfl, trivial⟩)
end

theorem gn_ok (ao : Option Addr) (cap : Nat) (bs : List Int) (again removed : Int) (hb : ∀ z ∈ bs, 0 ≤ z ∧ z ≤ 255) : Spec Try.prog 11 [⟨.sl ao cap, .roL 1 encU8 bs 0⟩] [.vec 0 ao bs.length cap, .int .u8 again, .int .u8 removed] fun _ r => r = .bool true := by
  refine Spec.of_G 147 Try.func11 (c := bodyOf Try.f11) (by kernel_rfl) (by kernel_rfl) (Nat.le_of_ble_eq_true rfl) fun W F => ?_
  refine G_run (kc := false) (ss := []) gTk_ok hmG 400 ?_
  rw [gn_start]
  refine ⟨rfl, ?_⟩
  cases h8 : decide ((bs.length : Int) > 8) with
  | true => exact rfl
  | false =>
    simp only [decide_eq_false_iff_not] at h8
    refine ⟨rfl, fun b bg bo d => ?_⟩
    refine G_loopAt (ι := Nat × Grp) [] (bodyOf Try.f11) [1, 1, 1, 1, 1, 1, 1, 0, 1, 0] 147 (fun x => [(0, .vec 0 ao bs.length cap), (1, .int .u8 again), (2, .int .u8 removed), (7, .ptr 1 b 0), (8, .str names8), (9, .raw (.slice none 0 0)), (10, .ptr 2 d 0), (11, .int .i64 (x.1 : Int))]) (fun x => [⟨.sl ao cap, .roL 1 encU8 bs 0⟩, pkA b grpE x.2, ⟨.blk d, .cells [.bool false, .bool false, .bool false, .bool false, .bool false, .bool false, .bool false, .bool false] 86⟩])
      (fun x => GI x.2 x.1 (agF again) (agF removed) []) (fun x => 8 - x.1) (0, ⟨bg, bo, none, 0, [], [], []⟩) (by kernel_rfl) (fun J => by kernel_rfl) ?_ rfl ⟨rfl, rfl, rfl, rfl, rfl, rfl, rfl, rfl, trivial⟩ (fun w hw => hw) ?_
    · exact ⟨List.Pairwise.nil, fun k hk => ⟨0, by rw [if_neg (Nat.not_lt_zero k)]; rfl⟩, List.Pairwise.nil, fun k hk => by rw [if_neg (fun h => Nat.not_lt_zero k h.1)]; rfl, fun k hk => by rw [if_neg (fun h => List.not_mem_nil h.1)]; rfl, rfl, List.nodup_nil, fun k hk => absurd hk List.not_mem_nil, Nat.zero_le _⟩
    rintro ⟨i, s⟩ h u
    dsimp only at h ⊢
    simp only [List.nil_append, List.cons_append]
    refine G_run (kc := false) (ss := []) gTk_ok hmG 900 ?_
    rw [gn_l1]
    cases hlt : decide ((i : Int) < 8) with
    | true =>
      simp only [decide_eq_true_eq] at hlt
      have hi : i < 8 := by omega
      have t1 : Int.toNat (i : Int) = i := by omega
      have t2 : IntKind.wrap .i64 ((i : Int) + 2) = (i : Int) + 2 := IntWalk.i64_in _ (by omega)
      have t4 : IntKind.wrap .i64 ((i : Int) + 1) = ((i + 1 : Nat) : Int) := IntWalk.i64_in _ (by omega)
      have t6 : ByteArray.extract names8 (Int.toNat (i : Int)) (Int.toNat ((i + 1 : Nat) : Int)) = nm i := by
        rw [t1, Int.toNat_natCast]; rfl
      rw [t2, t4, t6]
      refine ⟨⟨by omega, by omega, by show _ ≤ (8 : Int); omega⟩, rfl, rfl, rfl, HEq.rfl, fun nb => ?_⟩
      obtain ⟨m1, m2, m3, m4⟩ := h.make hi nb
      rw [m1]
      refine ⟨⟨by omega, by omega, by show _ ≤ (8 : Int); omega⟩, rfl, rfl, rfl, HEq.rfl, ⟨m2, m3⟩, fun ao1 cap1 => ?_⟩
      obtain ⟨n1, n2⟩ := m4 ao1 cap1
      rw [n1]
      exact G_back (i + 1, _) n2 (by dsimp only; omega) rfl ⟨rfl, rfl, rfl, rfl, rfl, rfl, rfl, rfl, trivial⟩ (fun w hw => hw)
    | false =>
      simp only [decide_eq_false_iff_not] at hlt
      have hi : i = 8 := by have := h.n8; omega
      subst hi
      refine G_loopAt (ι := G2) [] (bodyOf Try.f11) [1, 1, 1, 1, 1, 1, 1, 1, 0, 1, 0] 147 (gnL2 ao cap bs again removed b d) (gnH2 ao cap bs again removed b d) (gnP2 bs again removed) (fun x => bs.length - x.i) ⟨0, s, [], none, 0⟩ (by kernel_rfl) (fun J => by kernel_rfl)
        ⟨Nat.zero_le _, h⟩ rfl ⟨rfl, rfl, rfl, rfl, rfl, rfl, rfl, rfl, trivial⟩ (fun w hw => ?_) ?_
      · have h1 := Rep.arrOf (l := 2) encB (doneL []) false rfl rfl (fun _ => rfl) hw
        exact Rep.nilvec 9 (sz := 1) (enc := encS) ByteArray.empty (fun _ => rfl) h1
      rintro ⟨i, s, seen, an, cn⟩ ⟨h1, h2⟩ u
      dsimp only at h1 h2 ⊢
      simp only [List.nil_append, List.cons_append]
      unfold gnL2 gnH2
      dsimp only
      refine G_run (kc := false) (ss := [18]) gTk_ok hmG 1500 ?_
      rw [gn_l2]
      cases hlt : decide ((i : Int) < (bs.length : Int)) with
      | false => exact G_live 147 [(0, .vec 0 ao bs.length cap), (1, .int .u8 again), (2, .int .u8 removed), (7, .ptr 1 b 0), (8, .str names8), (9, .vec 3 an (lawL (agF again) (agF removed) seen).length cn), (10, .ptr 2 d 0), (14, .int .i64 0)] (gnH2 ao cap bs again removed b d ⟨i, s, seen, an, cn⟩) rfl ⟨rfl, rfl, rfl, rfl, rfl, rfl, rfl, rfl, trivial⟩ (fun w hw => hw) fun u => gn_l3_ok seen s an cn h2 u i
      | true =>
        simp only [decide_eq_true_eq] at hlt
        have hi : i < bs.length := by omega
        have t1 : Int.toNat (i : Int) = i := by omega
        rw [t1]
        have hz := hb _ (List.getElem_mem hi)
        rw [← getD_lt bs 0 i hi] at hz
        have hm : (bs.getD i 0).tmod 8 = (bs.getD i 0) % 8 := Int.tmod_eq_emod_of_nonneg hz.1
        have hw : IntKind.wrap .i64 ((bs.getD i 0).tmod 8) = (((bs.getD i 0).tmod 8).toNat : Int) := by rw [IntWalk.i64_in _ (by omega)]; omega
        refine ⟨⟨rfl, rfl, rfl, by omega, by omega⟩, ⟨rfl, rfl, rfl, hi⟩, by decide, ?_⟩
        exact G_live 147 [(0, .vec 0 ao bs.length cap), (1, .int .u8 again), (2, .int .u8 removed), (7, .ptr 1 b 0), (8, .str names8), (9, .vec 3 an (lawL (agF again) (agF removed) seen).length cn), (10, .ptr 2 d 0), (12, .int .i64 (i : Int)), (13, .int .i64 (((bs.getD i 0).tmod 8).toNat : Int))] (gnH2 ao cap bs again removed b d ⟨i, s, seen, an, cn⟩) rfl ⟨rfl, rfl, rfl, rfl, rfl, rfl, rfl, rfl, congrArg (Value.int .i64) hw, trivial⟩ (fun w hw => hw) fun u => gn_k_ok hb (by omega) i _ s seen an cn hi (by omega) h2 u
end Go.Proofs.Ytjnkfgigpapeaaa
