/- A region that draws its order, over the symbolic states: what leaves the world as it is may be taken first. -/
import Derived.Test.YtihajdkipkfiiaaEngD
import Derived.OrdersHeld
import Derived.StillTail
namespace Go.Proofs.Ytihajdkipkfiiaa
open Go Go.RowKit
set_option linter.unusedVariables false
set_option linter.unusedSimpArgs false
set_option linter.unnecessarySimpa false
universe u
set_option linter.unusedVariables false

section
variable {P : Program} {ops : Array Oper} {Q : Exit → Act → World → Prop} {md : Region.Mode} {keep : Nat → Bool} {S : World → Prop}

/-- Whatever order is picked. An operation i of those that keep S leaves S. -/
def wpAnyT (P : Program) (md : Region.Mode) (ops : Array Oper) (Q : Exit → Act → World → Prop) (keep : Nat → Bool) (S : World → Prop) : Nat → Array Bool → Act → World → Prop
  | 0, listed, a, w => Region.ready md ops listed = [] ∧ Q .normal a w
  | n + 1, listed, a, w => (Region.ready md ops listed = [] → Q .normal a w) ∧
      ∀ i ∈ Region.ready md ops listed, wpOp P ops Q i (fun a' w' => (keep i = true → S w → S w') ∧ wpAnyT P md ops Q keep S n (listed.setIfInBounds i true) a' w') a w

theorem wpAnyT.any : ∀ (n : Nat) (listed : Array Bool) (a : Act) (w : World), wpAnyT P md ops Q keep S n listed a w → wpAny P md ops Q n listed a w
  | 0, _, _, _, h => h
  | n + 1, _, _, _, h => ⟨h.1, fun i hi => wpOp_mono (fun _ _ h' => wpAnyT.any n _ _ _ h'.2) (h.2 i hi)⟩

theorem wpAnyT_first {i : Nat} {oi : Oper} {v : Value} {S' : World → Prop} (hi : ops[i]? = some oi) (hsel : ∀ (j : Nat) (o : Oper) cs b, ops[j]? = some o → o.op ≠ .select cs b)
    (hQ : ∀ c a w, Q (.panic c) (a.put oi.dst v) w → Q (.panic c) a w) :
    ∀ (n : Nat) (listed : Array Bool) (a : Act) (w : World),
      (∀ j oj, ops[j]? = some oj → j ≠ i → listed.getD j true = false → (∀ e ∈ oj.after, Region.binds md e = true → e.on ≠ i) →
        oi.apart ops oj = true ∧ ∀ w w', (keep j = true → S w → S w') → S' w → S' w') →
      i ∈ Region.ready md ops listed → YieldsIf P ops S' oi v a → S' w →
      wpAnyT P md ops Q keep S n (listed.setIfInBounds i true) (a.put oi.dst v) w → wpAnyT P md ops Q keep S (n + 1) listed a w := by
  intro n
  induction n with
  | zero =>
    intro listed a w _ hr hy hS hH
    refine ⟨fun h => absurd hr (h ▸ List.not_mem_nil), fun j hj => ?_⟩
    rcases Decidable.em (j = i) with e | e
    · subst e; exact hy.wpOp hi hS ⟨fun _ h => h, hH⟩
    · have h0 := ready_mono hj e
      rw [hH.1] at h0
      cases h0
  | succ n ih =>
    intro listed a w hother hr hy hS hH
    refine ⟨fun h => absurd hr (h ▸ List.not_mem_nil), fun j hj => ?_⟩
    rcases Decidable.em (j = i) with e | e
    · subst e; exact hy.wpOp hi hS ⟨fun _ h => h, hH⟩
    · obtain ⟨hun, oj, hoj, hall⟩ := mem_ready.1 hj
      have hno : ∀ e ∈ oj.after, Region.binds md e = true → e.on ≠ i := by
        intro x hx hb hxi
        have h1 := hall x hx hb
        rw [hxi] at h1
        rw [getD_both (mem_ready.1 hr).1] at h1
        cases h1
      obtain ⟨hap, hkeep⟩ := hother j oj hoj e hun hno
      have h2 := wpOp_putIf hoj hap (fun cs b => hsel i oi cs b hi) (fun cs b => hsel j oj cs b hoj) hQ hy (hH.2 j (ready_mono hj e))
      refine wpOp_mono (fun a' w' h3 => ⟨h3.2.1, ?_⟩) h2
      refine ih (listed.setIfInBounds j true) a' w' (fun k ok hk hki hkun hkno => ?_) (ready_mono hr (Ne.symm e)) h3.1 (hkeep w w' h3.2.1 hS) ?_
      · refine hother k ok hk hki ?_ hkno
        rcases Decidable.em (j = k) with ejk | ejk
        · subst ejk; exact hun
        · rw [getD_set_ne true ejk] at hkun; exact hkun
      · rw [Array.setIfInBounds_comm _ _ e]
        exact h3.2.2
end

/-! ### On symbolic states -/

/-- Does the operation leave the old entries as they are, whatever it is given? (A call: if kc says so.) -/
def keepB (kc : Bool) (o : Oper) : Bool :=
  match o.op with
  | .store .. => kc
  | .call c => match c.callee with
    | .builtin .len => true
    | .builtin _ => false
    | _ => kc
  | .move _ | .assign _ | .pick .. | .nilCheck _ | .binOp .. | .unOp .. | .convert .. | .typeAssert .. | .makeInterface .. | .makeFunc .. | .fieldAddr .. | .extract .. | .field .. | .index .. | .slice ..
  | .load .. | .indexAddr .. | .build .. | .lookup .. | .alloc _ | .box .. | .buildSlice .. | .makeMap .. => true
  | _ => false

def quietB (o : Oper) : Bool :=
  match o.op with
  | .move _ | .assign _ | .pick .. | .nilCheck _ | .binOp .. | .unOp .. | .convert .. | .typeAssert .. | .makeInterface .. | .makeFunc .. | .fieldAddr .. | .extract .. | .field .. | .index .. | .slice ..
  | .load .. | .indexAddr .. | .build .. | .lookup .. => true
  | .call ⟨.builtin .len, _, _⟩ => true
  | _ => false

/-- It is quiet; or it keeps, and so does each ahead of it in the text. -/
def keepN (kc : Bool) (ops : Array Oper) (j : Nat) : Bool :=
  (match ops[j]? with
    | some o => quietB o
    | none => false) || (List.range (j + 1)).all fun i => match ops[i]? with
    | some o => keepB kc o
    | none => true

/-- Each of the others that isn't listed keeps, or waits for number i. -/
def holdB (kc : Bool) (ops : Array Oper) (listed : Array Bool) (i : Nat) : Bool :=
  (List.range ops.size).all fun j => listed.getD j true || j == i || keepN kc ops j || Region.waitsFor .any ops j i

def takeB (kc : Bool) (ops : Array Oper) (listed : Array Bool) (ok : Bool) (i : Nat) : Bool :=
  match ops[i]? with
  | some o => quietB o && (Region.ready .any ops listed).contains i && Region.free .any ops listed i && (stillB o || (ok && holdB kc ops listed i))
  | none => false

/-- The first that may be taken first. -/
def firstB (kc : Bool) (ops : Array Oper) (listed : Array Bool) (ok : Bool) : Nat → Nat → Option Nat
  | 0, _ => none
  | n + 1, i => match takeB kc ops listed ok i with
    | true => some i
    | false => firstB kc ops listed ok n (i + 1)

theorem firstB_spec {kc : Bool} {ops : Array Oper} {listed : Array Bool} {ok : Bool} : ∀ (n i j : Nat), firstB kc ops listed ok n i = some j → takeB kc ops listed ok j = true
  | 0, _, _, h => by cases h
  | n + 1, i, j, h => by
    simp only [firstB] at h
    split at h
    · rename_i e; cases h; exact e
    · exact firstB_spec n (i + 1) j h

/-- The old entries stand as they were. -/
def PreE : List Ent → List Ent → Prop
  | [], _ => True
  | _ :: _, [] => False
  | e :: h, e' :: h' => e' = e ∧ PreE h h'

theorem PreE.split : ∀ {h h' : List Ent}, PreE h h' → ∃ l, h' = h ++ l
  | [], h', _ => ⟨h', rfl⟩
  | e :: h, e' :: h', hp => by
    obtain ⟨l, rfl⟩ := PreE.split hp.2
    obtain ⟨rfl, _⟩ := hp
    exact ⟨l, rfl⟩

theorem HasAll.pre {W : World} : ∀ {h l : List Ent} {cs : List Ch}, HasAll W (h ++ l) cs → ∃ c1 c2, cs = c1 ++ c2 ∧ HasAll W h c1
  | [], l, cs, _ => ⟨[], cs, rfl, rfl⟩
  | e :: h, l, cs, ha => by
    obtain ⟨c, cs', rfl, hc, ha⟩ := ha
    obtain ⟨c1, c2, rfl, h1⟩ := HasAll.pre ha
    exact ⟨c :: c1, c2, rfl, c, c1, rfl, hc, h1⟩

theorem H.dropL {W w : World} {L L' : List Ch} (h : H W w (L ++ L')) : H W w L' := by
  induction L with
  | nil => exact h
  | cons c L ih => exact ih h.drop

theorem H.drop_mid {W w : World} {a b c : List Ch} (h : H W w (a ++ b ++ c)) : H W w (a ++ c) :=
  H.dropL (L := b) (h.perm (by
    simp only [List.flatten_append]
    rw [← List.append_assoc]
    exact List.Perm.append_right _ List.perm_append_comm))

theorem Rep.pre {W w : World} {F : List Ch} {h h' : List Ent} (hp : PreE h h') (hr : Rep W F h' w) : Rep W F h w := by
  obtain ⟨l, rfl⟩ := hp.split
  obtain ⟨cs, ha, hH⟩ := hr
  obtain ⟨c1, c2, rfl, h1⟩ := ha.pre
  exact ⟨c1, h1, hH.drop_mid⟩

/-- An operation that is taken first, with its guard. -/
def xtake (P : Program) (ops : Array Oper) (h0 : List Ent) (st : Sy) (o : Oper) (N : Sy → Prop) (S : Prop) : Prop :=
  match o.guard with
  | none => (xres P ⟨st.tmps, h0⟩ o.op).holds (fun v => N (st.put o.dst v)) S
  | some (g, want) => match slotOf ops g with
    | some t => match nth st.tmps t with
      | some (.bool b) => match want with
        | true => match b with
          | true => (xres P ⟨setN st.tmps t (.bool true), h0⟩ o.op).holds (fun v => N (({ st with tmps := setN st.tmps t (.bool true) } : Sy).put o.dst v)) S
          | false => N (({ st with tmps := setN st.tmps t (.bool false) } : Sy).put o.dst (.raw undef))
        | false => match b with
          | true => N (({ st with tmps := setN st.tmps t (.bool true) } : Sy).put o.dst (.raw undef))
          | false => (xres P ⟨setN st.tmps t (.bool false), h0⟩ o.op).holds (fun v => N (({ st with tmps := setN st.tmps t (.bool false) } : Sy).put o.dst v)) S
      | some v => isUndef v = true ∧ N (st.put o.dst (.raw undef))
      | none => S
    | none => S

/-- Each of them. -/
def allJ (l : List Nat) (f : Nat → Prop) : Prop :=
  match l with
  | [] => True
  | [j] => f j
  | j :: l => f j ∧ allJ l f

theorem allJ_mem : ∀ {l : List Nat} {f : Nat → Prop}, allJ l f → ∀ j ∈ l, f j
  | [], _, _, j, hj => by cases hj
  | [i], f, h, j, hj => by
    simp only [List.mem_singleton] at hj
    subst hj; exact h
  | i :: i' :: l, f, h, j, hj => by
    rcases List.mem_cons.1 hj with rfl | hj
    · exact h.1
    · exact allJ_mem h.2 j hj

/-- The region's walk. h0: the entries at its begin. ok: do they stand still? -/
def xdraw (P : Program) (Cs : Tbl) (ops : Array Oper) (kc : Bool) (h0 : List Ent) (N : Sy → Prop) (S : Prop) : Nat → Array Bool → Bool → Sy → Prop
  | 0, listed, _, st => match Region.ready .any ops listed with
    | [] => N st
    | _ => S
  | n + 1, listed, ok, st => match firstB kc ops listed ok ops.size 0 with
    | some i => match nth ops.toList i with
      | some o => xtake P ops (match stillB o with | true => [] | false => h0) st o (fun st' => xdraw P Cs ops kc h0 N S n (listed.setIfInBounds i true) ok st') S
      | none => S
    | none => match Region.ready .any ops listed with
      | [] => N st
      | l => allJ l fun j => match nth ops.toList j with
        | some o => match quietB o with
         | true => xtake P ops st.heap st o (fun st' => xdraw P Cs ops kc h0 N S n (listed.setIfInBounds j true) ok st') S
         | false => match keepN kc ops j with
          | true => xguard P Cs ops st o (fun st' => PreE h0 st'.heap ∧ xdraw P Cs ops kc h0 N S n (listed.setIfInBounds j true) ok st') S
          | false => xguard P Cs ops st o (fun st' => xdraw P Cs ops kc h0 N S n (listed.setIfInBounds j true) false st') S
        | none => S

section
variable {Cs : Tbl} {P : Program} {W : World} {F : List Ch} {ops : Array Oper} {Q : Exit → Act → World → Prop} {kc : Bool} {h0 : List Ent} {N : Sy → Prop} {S : Prop}

/-- What a taken operation yields, in each world of the class. -/
theorem sound_xtake {h' : List Ent} {st : Sy} {o : Oper} {C : World → Prop} (hC : (∀ w, C w → Rep W F h' w) ∨ stillB o = true) (hx : xtake P ops h' st o N S) (hS : ¬ S) :
    ∃ v st', N st' ∧ st'.heap = st.heap ∧ actOf st' = (actOf st).put o.dst v ∧ YieldsIf P ops C o v (actOf st) := by
  have main : ∀ tm : List SV, actOf ⟨tm, h'⟩ = actOf st → ∀ N' : SV → Prop, (xres P ⟨tm, h'⟩ o.op).holds N' S → ∃ v : SV, N' v ∧ ∀ w, C w → (execOp (actOf st).eval o).run P w = .ok (.value (den v)) w := by
    intro tm htm N' hh
    rcases hC with hC | hst
    · refine yields_class (W := W) (F := F) (st := ⟨tm, h'⟩) (o := o) S (fun v h1 h2 => ⟨v, h2, fun w hw => ?_⟩) hh (fun h => (hS h).elim)
      have := h1 w (hC w hw)
      rwa [htm] at this
    · refine yields_still (st := ⟨tm, h'⟩) (o := o) S hst (fun v h1 h2 => ⟨v, h2, fun w _ => ?_⟩) hh (fun h => (hS h).elim)
      have := h1 w
      rwa [htm] at this
  unfold xtake at hx
  split at hx
  · rename_i hg
    obtain ⟨v, hn, hy⟩ := main st.tmps rfl _ hx
    exact ⟨den v, _, hn, heap_put _ _ _, actOf_put _ _ _, .inl ⟨by simp [Region.wanted, hg], hy⟩⟩
  · rename_i g want hg
    split at hx
    · rename_i t ht
      have hyl := yielded_slot (st := st) ht
      split at hx
      · rename_i b hb
        rw [hb] at hyl
        simp only [Option.map_some, den] at hyl
        have yes : ∀ bb : Bool, b = bb → want = bb → (xres P ⟨setN st.tmps t (.bool bb), h'⟩ o.op).holds (fun v => N (({ st with tmps := setN st.tmps t (.bool bb) } : Sy).put o.dst v)) S →
            ∃ v st', N st' ∧ st'.heap = st.heap ∧ actOf st' = (actOf st).put o.dst v ∧ YieldsIf P ops C o v (actOf st) := by
          intro bb e1 e2 h1
          subst e1; subst e2
          have hsame := actOf_same t want hb
          obtain ⟨v, hn, hy⟩ := main (setN st.tmps t (.bool want)) hsame _ h1
          refine ⟨den v, _, hn, heap_put _ _ _, ?_, .inl ⟨by simp [Region.wanted, hg, hyl], hy⟩⟩
          rw [actOf_put, hsame]
        have no : ∀ bb : Bool, b = bb → want = !bb → N (({ st with tmps := setN st.tmps t (.bool bb) } : Sy).put o.dst (.raw undef)) →
            ∃ v st', N st' ∧ st'.heap = st.heap ∧ actOf st' = (actOf st).put o.dst v ∧ YieldsIf P ops C o v (actOf st) := by
          intro bb e1 e2 h1
          subst e1; subst e2
          have hsame := actOf_same t b hb
          refine ⟨undef, _, h1, heap_put _ _ _, ?_, .inr ⟨by simp [Region.wanted, hg, hyl], rfl⟩⟩
          rw [actOf_put, hsame]; rfl
        cases want <;> cases b
        · exact yes false rfl rfl hx
        · exact no true rfl rfl hx
        · exact no false rfl rfl hx
        · exact yes true rfl rfl hx
      · rename_i v hnb hv
        obtain ⟨hu, hx⟩ := hx
        rw [hv] at hyl
        have hd : den v = .tuple #[] := by
          unfold isUndef at hu
          split at hu
          · rename_i vs
            have : vs = #[] := by apply Array.eq_empty_of_size_eq_zero; simpa using hu
            subst this; rfl
          · cases hu
        simp only [Option.map_some, hd] at hyl
        exact ⟨undef, _, hx, heap_put _ _ _, actOf_put _ _ _, .inr ⟨by simp [Region.wanted, hg, hyl], rfl⟩⟩
      · exact (hS hx).elim
    · exact (hS hx).elim

/-- One operation of the region, whichever comes up. -/
theorem wpOp_guard (hC : AllOk P Cs) {st : Sy} {w : World} {j : Nat} {o : Oper} {N' : Sy → Prop} {K : Act → World → Prop} (ho : ops[j]? = some o) (hr : Rep W F st.heap w) (hx : xguard P Cs ops st o N' S) (hS : ¬ S)
    (hN : ∀ st', N' st' → ∀ w', Rep W F st'.heap w' → K (actOf st') w') : wpOp P ops Q j K (actOf st) w := by
  unfold wpOp
  rw [ho]
  simp only
  have yes : ∀ st1 : Sy, actOf st1 = actOf st → st1.heap = st.heap → Region.wanted o (yielded ops (actOf st).tmps) = true → xop P Cs st1 o N' S → if Region.wanted o (yielded ops (actOf st).tmps) = true then Oper.wp P o (actOf st) w K Q ∨ Oper.asks P o (actOf st) w ∧ LetsOut Q else K ((actOf st).put o.dst undef) w := by
    intro st1 h1 h2 hw h3
    rw [if_pos hw]
    rw [← h1]
    exact .inl (sound_xop hC S hN (by rw [h2]; exact hr) h3 (fun h => (hS h).elim))
  have no : ∀ st1 : Sy, actOf st1 = actOf st → st1.heap = st.heap → Region.wanted o (yielded ops (actOf st).tmps) = false → N' (st1.put o.dst (.raw undef)) → if Region.wanted o (yielded ops (actOf st).tmps) = true then Oper.wp P o (actOf st) w K Q ∨ Oper.asks P o (actOf st) w ∧ LetsOut Q else K ((actOf st).put o.dst undef) w := by
    intro st1 h1 h2 hw h3
    rw [if_neg (by rw [hw]; decide)]
    have := hN _ h3 w (by rw [heap_put, h2]; exact hr)
    rwa [actOf_put, h1] at this
  unfold xguard at hx
  split at hx
  · rename_i hg
    exact yes st rfl rfl (by simp [Region.wanted, hg]) hx
  · rename_i g want hg
    split at hx
    · rename_i t ht
      have hyl := yielded_slot (st := st) ht
      split at hx
      · rename_i b hb
        rw [hb] at hyl
        simp only [Option.map_some, den] at hyl
        have hsame := actOf_same t b hb
        cases want <;> cases b
        · exact yes _ hsame rfl (by simp [Region.wanted, hg, hyl]) hx
        · exact no _ hsame rfl (by simp [Region.wanted, hg, hyl]) hx
        · exact no _ hsame rfl (by simp [Region.wanted, hg, hyl]) hx
        · exact yes _ hsame rfl (by simp [Region.wanted, hg, hyl]) hx
      · rename_i v hnb hv
        obtain ⟨hu, hx⟩ := hx
        rw [hv] at hyl
        have hd : den v = .tuple #[] := by
          unfold isUndef at hu
          split at hu
          · rename_i vs
            have : vs = #[] := by apply Array.eq_empty_of_size_eq_zero; simpa using hu
            subst this; rfl
          · cases hu
        simp only [Option.map_some, hd] at hyl
        exact no st rfl rfl (by simp [Region.wanted, hg, hyl]) hx
      · exact (hS hx).elim
    · exact (hS hx).elim

theorem sound_xdraw (hC : AllOk P Cs) (hsel : Region.noSelect ops = true) (hQ : ∀ c d v a w, Q (.panic c) (Act.put a d v) w → Q (.panic c) a w) (hS : ¬ S) (hN : ∀ st, N st → ∀ w, Rep W F st.heap w → Q .normal (actOf st) w) :
    ∀ (n : Nat) (listed : Array Bool) (ok : Bool) (st : Sy) (w : World), Rep W F st.heap w → (ok = true → Rep W F h0 w) → xdraw P Cs ops kc h0 N S n listed ok st →
      wpAnyT P .any ops Q (keepN kc ops) (Rep W F h0) n listed (actOf st) w
  | 0, listed, ok, st, w, hr, hok, hx => by
    simp only [xdraw] at hx
    split at hx
    · rename_i e; exact ⟨e, hN _ hx w hr⟩
    · exact (hS hx).elim
  | n + 1, listed, ok, st, w, hr, hok, hx => by
    simp only [xdraw] at hx
    split at hx
    · rename_i i hi
      have htk := firstB_spec _ _ _ hi
      split at hx
      · rename_i o ho
        rw [nth_eq, Array.getElem?_toList] at ho
        simp only [takeB, ho, Bool.and_eq_true, Bool.or_eq_true] at htk
        obtain ⟨⟨⟨_, hrd⟩, hfr⟩, hcl⟩ := htk
        by_cases hst : stillB o = true
        · obtain ⟨v, st', hn, hh, ha, hy⟩ := sound_xtake (W := W) (F := F) (C := fun _ => True) (.inr hst) hx hS
          refine wpAnyT_first (S' := fun _ => True) ho (Region.noSelect_spec hsel) (fun c a w => hQ c o.dst v a w) n listed _ w (fun j oj hj hne hun hno => ⟨Region.free_spec ho hfr j oj hj hne hun hno, fun _ _ _ _ => trivial⟩) (by simpa using hrd) hy trivial ?_
          rw [← ha]
          exact sound_xdraw hC hsel hQ hS hN n _ ok st' w (by rw [hh]; exact hr) hok hn
        · have hst' : stillB o = false := by simpa using hst
          obtain ⟨hok1, hhold⟩ := hcl.resolve_left hst
          rw [hst'] at hx
          obtain ⟨v, st', hn, hh, ha, hy⟩ := sound_xtake (W := W) (F := F) (C := Rep W F h0) (.inl fun _ h => h) hx hS
          refine wpAnyT_first (S' := Rep W F h0) ho (Region.noSelect_spec hsel) (fun c a w => hQ c o.dst v a w) n listed _ w (fun j oj hj hne hun hno => ⟨Region.free_spec ho hfr j oj hj hne hun hno, ?_⟩) (by simpa using hrd) hy (hok hok1) ?_
          · intro w1 w2 hk hw1
            refine hk ?_ hw1
            simp only [holdB, List.all_eq_true, List.mem_range] at hhold
            have h1 := hhold j (Array.getElem?_eq_some_iff.1 hj).1
            simp only [hun, Bool.false_or, Bool.or_eq_true, beq_iff_eq, hne, false_or] at h1
            rcases h1 with h1 | h1
            · exact h1
            · obtain ⟨oj', hj', e, he, hb, hon⟩ := Region.waitsFor_spec h1
              rw [hj] at hj'; cases hj'
              exact absurd hon (hno e he hb)
          · rw [← ha]
            exact sound_xdraw hC hsel hQ hS hN n _ ok st' w (by rw [hh]; exact hr) hok hn
      · exact (hS hx).elim
    · split at hx
      · rename_i e
        exact ⟨fun _ => hN _ hx w hr, fun i hi => by rw [e] at hi; cases hi⟩
      · rename_i hne
        refine ⟨fun h => absurd h hne, fun j hj => ?_⟩
        have hx := allJ_mem hx j hj
        obtain ⟨_, o, ho, _⟩ := mem_ready.1 hj
        have ho' : nth ops.toList j = some o := by rw [nth_eq, Array.getElem?_toList]; exact ho
        rw [ho'] at hx
        simp only at hx
        split at hx
        · obtain ⟨v, st', hn, hh, ha, hy⟩ := sound_xtake (W := W) (F := F) (C := Rep W F st.heap) (.inl fun _ h => h) hx hS
          refine hy.wpOp ho hr ⟨fun _ h => h, ?_⟩
          rw [← ha]
          exact sound_xdraw hC hsel hQ hS hN n _ ok st' w (by rw [hh]; exact hr) hok hn
        split at hx
        · exact wpOp_guard hC ho hr hx hS fun st' hn w' hr' => ⟨fun _ _ => hr'.pre hn.1, sound_xdraw hC hsel hQ hS hN n _ ok st' w' hr' (fun _ => hr'.pre hn.1) hn.2⟩
        · rename_i hk
          refine wpOp_guard hC ho hr hx hS fun st' hn w' hr' => ⟨fun h => ?_, sound_xdraw hC hsel hQ hS hN n _ false st' w' hr' (fun h => by cases h) hn⟩
          rw [hk] at h; cases h
end

end Go.Proofs.Ytihajdkipkfiiaa
