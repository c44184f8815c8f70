import Derived.Test.YtkcmgcoppecfpaaMgLoopOnce3
import Derived.OrdersHeld
import Derived.StillTail
import Derived.Deep.LoopGhost
set_option linter.unusedVariables false
set_option linter.unusedSimpArgs false
set_option linter.unnecessarySimpa false
set_option maxHeartbeats 0
set_option maxRecDepth 100000
/- A region that draws its order, over the symbolic states: what leaves the world as1 it is may be taken first. -/
namespace Go.Proofs.Ytkcmgcoppecfpaa
open Go Go.RowKit
universe u

section
variable {P : Program} {ops : Array Oper} {Q : Exit → Act → World → Prop} {md : Region.Mode} {keep : Nat → Bool} {S : World → Prop}

def wpAnyT (P : Program) (md : Region.Mode) (ops : Array Oper) (Q : Exit → Act → World → Prop) (keep : Nat → Bool) (S : World → Prop) : Nat → Array Bool → Act → World → Prop
  | 0, listed, a, w => Region.ready md ops listed = [] ∧ Q .normal a w
  | n + 1, listed, a, w => (Region.ready md ops listed = [] → Q .normal a w) ∧
      ∀ i ∈ Region.ready md ops listed, wpOp P ops Q i (fun a' w' => (keep i = true → S w → S w') ∧ wpAnyT P md ops Q keep S n (listed.setIfInBounds i true) a' w') a w

theorem wpAnyT.any : ∀ (n : Nat) (listed : Array Bool) (a : Act) (w : World), wpAnyT P md ops Q keep S n listed a w → wpAny P md ops Q n listed a w
  | 0, _, _, _, h => h
  | n + 1, _, _, _, h => ⟨h.1, fun i hi => wpOp_mono (fun _ _ h' => wpAnyT.any n _ _ _ h'.2) (h.2 i hi)⟩

theorem wpAnyT_first {i : Nat} {oi : Oper} {v : Value} {S' : World → Prop} (hi : ops[i]? = some oi) (hsel : ∀ (j : Nat) (o : Oper) cs b, ops[j]? = some o → o.op ≠ .select cs b)
    (hQ : ∀ c a w, Q (.panic c) (a.put oi.dst v) w → Q (.panic c) a w) :
    ∀ (n : Nat) (listed : Array Bool) (a : Act) (w : World),
      (∀ j oj, ops[j]? = some oj → j ≠ i → listed.getD j true = false → (∀ e ∈ oj.after, Region.binds md e = true → e.on ≠ i) →
        oi.apart ops oj = true ∧ ∀ w w', (keep j = true → S w → S w') → S' w → S' w') →
      i ∈ Region.ready md ops listed → YieldsIf P ops S' oi v a → S' w →
      wpAnyT P md ops Q keep S n (listed.setIfInBounds i true) (a.put oi.dst v) w → wpAnyT P md ops Q keep S (n + 1) listed a w := by
  intro n
  induction n with
  | zero =>
    intro listed a w _ hr hy hS hH
    refine ⟨fun h => absurd hr (h ▸ List.not_mem_nil), fun j hj => ?_⟩
    rcases Decidable.em (j = i) with e | e
    · subst e; exact hy.wpOp hi hS ⟨fun _ h => h, hH⟩
    · have h0 := ready_mono hj e
      rw [hH.1] at h0
      cases h0
  | succ n ih =>
    intro listed a w hother hr hy hS hH
    refine ⟨fun h => absurd hr (h ▸ List.not_mem_nil), fun j hj => ?_⟩
    rcases Decidable.em (j = i) with e | e
    · subst e; exact hy.wpOp hi hS ⟨fun _ h => h, hH⟩
    · obtain ⟨hun, oj, hoj, hall⟩ := mem_ready.1 hj
      have hno : ∀ e ∈ oj.after, Region.binds md e = true → e.on ≠ i := by
        intro x hx hb hxi
        have h1 := hall x hx hb
        rw [hxi] at h1
        rw [getD_both (mem_ready.1 hr).1] at h1
        cases h1
      obtain ⟨hap, hkeep⟩ := hother j oj hoj e hun hno
      have h2 := wpOp_putIf hoj hap (fun cs b => hsel i oi cs b hi) (fun cs b => hsel j oj cs b hoj) hQ hy (hH.2 j (ready_mono hj e))
      refine wpOp_mono (fun a' w' h3 => ⟨h3.2.1, ?_⟩) h2
      refine ih (listed.setIfInBounds j true) a' w' (fun k ok hk hki hkun hkno => ?_) (ready_mono hr (Ne.symm e)) h3.1 (hkeep w w' h3.2.1 hS) ?_
      · refine hother k ok hk hki ?_ hkno
        rcases Decidable.em (j = k) with ejk | ejk
        · subst ejk; exact hun
        · rw [getD_set_ne true ejk] at hkun; exact hkun
      · rw [Array.setIfInBounds_comm _ _ e]
        exact h3.2.2
end

/-! ### On symbolic states -/

def keepB (kc ka : Bool) (o : Oper) : Bool :=
  match o.op with
  | .store .. => kc && !ka
  | .call c => match c.callee with
    | .builtin .len => true
    | .builtin .append => ka
    | .builtin _ => false
    | _ => kc
  | .move _ | .assign _ | .pick .. | .nilCheck _ | .binOp .. | .unOp .. | .convert .. | .typeAssert .. | .makeInterface .. | .makeFunc .. | .fieldAddr .. | .extract .. | .field .. | .index .. | .slice ..
  | .load .. | .indexAddr .. | .build .. | .lookup .. | .alloc _ | .box .. | .buildSlice .. | .makeMap .. => true
  | _ => false

def quietB (o : Oper) : Bool :=
  match o.op with
  | .move _ | .assign _ | .pick .. | .nilCheck _ | .binOp .. | .unOp .. | .convert .. | .typeAssert .. | .makeInterface .. | .makeFunc .. | .fieldAddr .. | .extract .. | .field .. | .index .. | .slice _ _ _ _ none
  | .load .. | .indexAddr .. | .build .. | .lookup .. => true
  | .call ⟨.builtin .len, _, _⟩ => true
  | _ => false

def keepN (kc ka : Bool) (ops : Array Oper) (j : Nat) : Bool :=
  (match ops[j]? with
    | some o => quietB o
    | none => false) || (List.range (j + 1)).all fun i => match ops[i]? with
    | some o => keepB kc ka o
    | none => true

def holdB (kc ka : Bool) (ops : Array Oper) (listed : Array Bool) (i : Nat) : Bool :=
  (List.range ops.size).all fun j => listed.getD j true || j == i || keepN kc ka ops j || Region.waitsFor .any ops j i

def takeB (kc ka : Bool) (ops : Array Oper) (listed : Array Bool) (ok : Bool) (i : Nat) : Bool :=
  match ops[i]? with
  | some o => quietB o && (Region.ready .any ops listed).contains i && Region.free .any ops listed i && (stillB o || (ok && holdB kc ka ops listed i))
  | none => false

def firstB (kc ka : Bool) (ops : Array Oper) (listed : Array Bool) (ok : Bool) : Nat → Nat → Option Nat
  | 0, _ => none
  | n + 1, i => match takeB kc ka ops listed ok i with
    | true => some i
    | false => firstB kc ka ops listed ok n (i + 1)

theorem firstB_spec {kc ka : Bool} {ops : Array Oper} {listed : Array Bool} {ok : Bool} : ∀ (n i j : Nat), firstB kc ka ops listed ok n i = some j → takeB kc ka ops listed ok j = true
  | 0, _, _, h => by cases h
  | n + 1, i, j, h => by
    simp only [firstB] at h
    split at h
    · rename_i e; cases h; exact e
    · exact firstB_spec n (i + 1) j h

def PreE : List Ent → List Ent → Prop
  | [], _ => True
  | _ :: _, [] => False
  | e :: h, e' :: h' => e' = e ∧ PreE h h'

theorem PreE.split : ∀ {h h' : List Ent}, PreE h h' → ∃ l, h' = h ++ l
  | [], h', _ => ⟨h', rfl⟩
  | e :: h, e' :: h', hp => by
    obtain ⟨l, rfl⟩ := PreE.split hp.2
    obtain ⟨rfl, _⟩ := hp
    exact ⟨l, rfl⟩

theorem HasAll.pre {W : World} : ∀ {h l : List Ent} {cs : List Ch}, HasAll W (h ++ l) cs → ∃ c1 c2, cs = c1 ++ c2 ∧ HasAll W h c1
  | [], l, cs, _ => ⟨[], cs, rfl, rfl⟩
  | e :: h, l, cs, ha => by
    obtain ⟨c, cs', rfl, hc, ha⟩ := ha
    obtain ⟨c1, c2, rfl, h1⟩ := HasAll.pre ha
    exact ⟨c :: c1, c2, rfl, c, c1, rfl, hc, h1⟩

theorem H.dropL {W w : World} {L L' : List Ch} (h : H W w (L ++ L')) : H W w L' := by
  induction L with
  | nil => exact h
  | cons c L ih => exact ih h.drop

theorem H.drop_mid {W w : World} {a b c : List Ch} (h : H W w (a ++ b ++ c)) : H W w (a ++ c) :=
  H.dropL (L := b) (h.perm (by
    simp only [List.flatten_append]
    rw [← List.append_assoc]
    exact List.Perm.append_right _ List.perm_append_comm))

theorem Rep.pre {W w : World} {F : List Ch} {h h' : List Ent} (hp : PreE h h') (hr : Rep W F h' w) : Rep W F h w := by
  obtain ⟨l, rfl⟩ := hp.split
  obtain ⟨cs, ha, hH⟩ := hr
  obtain ⟨c1, c2, rfl, h1⟩ := ha.pre
  exact ⟨c1, h1, hH.drop_mid⟩

def xtake (P : Program) (ops : Array Oper) (h0 : List Ent) (st : Sy) (o : Oper) (N : Sy → Prop) (S : Prop) : Prop :=
  match o.guard with
  | none => (xres P ⟨st.tmps, h0⟩ o.op).holds (fun v => N (st.put o.dst v)) S
  | some (g, want) => match slotOf ops g with
    | some t => match nth st.tmps t with
      | some (.bool b) => match want with
        | true => match b with
          | true => (xres P ⟨setN st.tmps t (.bool true), h0⟩ o.op).holds (fun v => N (({ st with tmps := setN st.tmps t (.bool true) } : Sy).put o.dst v)) S
          | false => N (({ st with tmps := setN st.tmps t (.bool false) } : Sy).put o.dst (.raw undef))
        | false => match b with
          | true => N (({ st with tmps := setN st.tmps t (.bool true) } : Sy).put o.dst (.raw undef))
          | false => (xres P ⟨setN st.tmps t (.bool false), h0⟩ o.op).holds (fun v => N (({ st with tmps := setN st.tmps t (.bool false) } : Sy).put o.dst v)) S
      | some v => isUndef v = true ∧ N (st.put o.dst (.raw undef))
      | none => S
    | none => S

def allJ (l : List Nat) (f : Nat → Prop) : Prop :=
  match l with
  | [] => True
  | [j] => f j
  | j :: l => f j ∧ allJ l f

theorem allJ_mem : ∀ {l : List Nat} {f : Nat → Prop}, allJ l f → ∀ j ∈ l, f j
  | [], _, _, j, hj => by cases hj
  | [i], f, h, j, hj => by
    simp only [List.mem_singleton] at hj
    subst hj; exact h
  | i :: i' :: l, f, h, j, hj => by
    rcases List.mem_cons.1 hj with rfl | hj
    · exact h.1
    · exact allJ_mem h.2 j hj

def takeE : Nat → List Ent → List Ent
  | 0, _ => []
  | _, [] => []
  | n + 1, e :: h => e :: takeE n h
def cutP (n : Nat) : Nat := n - 200000
def markP (n : Nat) : Bool := Nat.ble 200000 n
def preH (ss : List Nat) (h : List Ent) : List Ent := match ss with
  | [] => h
  | n :: ss => match markP n with
    | true => takeE (cutP n) h
    | false => preH ss h
def hasP (ss : List Nat) : Bool := match ss with
  | [] => false
  | n :: ss => match markP n with
    | true => true
    | false => hasP ss
theorem takeE_pre : ∀ (n : Nat) (h : List Ent), PreE (takeE n h) h
  | 0, _ => trivial
  | _ + 1, [] => trivial
  | n + 1, e :: h => ⟨rfl, takeE_pre n h⟩
theorem PreE.refl : ∀ h : List Ent, PreE h h
  | [] => trivial
  | e :: h => ⟨rfl, PreE.refl h⟩
theorem preH_step (b : Bool) (x y h : List Ent) (h1 : PreE x h) (h2 : PreE y h) : PreE (match b with | true => x | false => y) h := by
  cases b
  · exact h2
  · exact h1
theorem preH_pre (h : List Ent) (ss : List Nat) : PreE (preH ss h) h := by
  induction ss with
  | nil => exact PreE.refl h
  | cons n ss ih =>
    have e : preH (n :: ss) h = match markP n with | true => takeE (cutP n) h | false => preH ss h := rfl
    rw [e]
    generalize markP n = c
    cases c with
    | true =>
      dsimp only
      generalize cutP n = k
      exact takeE_pre k h
    | false => exact ih

def xdraw (P : Program) (Cs : Tbl) (ops : Array Oper) (kc ka : Bool) (h0 : List Ent) (N : Sy → Prop) (S : Prop) : Nat → Array Bool → Bool → Sy → Prop
  | 0, listed, _, st => match Region.ready .any ops listed with
    | [] => N st
    | _ => S
  | n + 1, listed, ok, st => match firstB kc ka ops listed ok ops.size 0 with
    | some i => match nth ops.toList i with
      | some o => xtake P ops (match stillB o with | true => [] | false => h0) st o (fun st' => xdraw P Cs ops kc ka h0 N S n (listed.setIfInBounds i true) ok st') S
      | none => S
    | none => match Region.ready .any ops listed with
      | [] => N st
      | l => allJ l fun j => match nth ops.toList j with
        | some o => match quietB o with
         | true => xtake P ops st.heap st o (fun st' => xdraw P Cs ops kc ka h0 N S n (listed.setIfInBounds j true) ok st') S
         | false => match keepN kc ka ops j with
          | true => xguard P Cs ops st o (fun st' => PreE h0 st'.heap ∧ xdraw P Cs ops kc ka h0 N S n (listed.setIfInBounds j true) ok st') S
          | false => xguard P Cs ops st o (fun st' => xdraw P Cs ops kc ka h0 N S n (listed.setIfInBounds j true) false st') S
        | none => S

section
variable {Cs : Tbl} {P : Program} {W : World} {F : List Ch} {ops : Array Oper} {Q : Exit → Act → World → Prop} {kc ka : Bool} {h0 : List Ent} {N : Sy → Prop} {S : Prop}

theorem sound_xtake {h' : List Ent} {st : Sy} {o : Oper} {C : World → Prop} (hC : (∀ w, C w → Rep W F h' w) ∨ stillB o = true) (hx : xtake P ops h' st o N S) (hS : ¬ S) :
    ∃ v st', N st' ∧ st'.heap = st.heap ∧ actOf st' = (actOf st).put o.dst v ∧ YieldsIf P ops C o v (actOf st) := by
  have main : ∀ tm : List SV, actOf ⟨tm, h'⟩ = actOf st → ∀ N' : SV → Prop, (xres P ⟨tm, h'⟩ o.op).holds N' S → ∃ v : SV, N' v ∧ ∀ w, C w → (execOp (actOf st).eval o).run P w = .ok (.value (den v)) w := by
    intro tm htm N' hh
    rcases hC with hC | hst
    · refine yields_class (W := W) (F := F) (st := ⟨tm, h'⟩) (o := o) S (fun v h1 h2 => ⟨v, h2, fun w hw => ?_⟩) hh (fun h => (hS h).elim)
      have := h1 w (hC w hw)
      rwa [htm] at this
    · refine yields_still (st := ⟨tm, h'⟩) (o := o) S hst (fun v h1 h2 => ⟨v, h2, fun w _ => ?_⟩) hh (fun h => (hS h).elim)
      have := h1 w
      rwa [htm] at this
  unfold xtake at hx
  split at hx
  · rename_i hg
    obtain ⟨v, hn, hy⟩ := main st.tmps rfl _ hx
    exact ⟨den v, _, hn, heap_put _ _ _, actOf_put _ _ _, .inl ⟨by simp [Region.wanted, hg], hy⟩⟩
  · rename_i g want hg
    split at hx
    · rename_i t ht
      have hyl := yielded_slot (st := st) ht
      split at hx
      · rename_i b hb
        rw [hb] at hyl
        simp only [Option.map_some, den] at hyl
        have yes : ∀ bb : Bool, b = bb → want = bb → (xres P ⟨setN st.tmps t (.bool bb), h'⟩ o.op).holds (fun v => N (({ st with tmps := setN st.tmps t (.bool bb) } : Sy).put o.dst v)) S →
            ∃ v st', N st' ∧ st'.heap = st.heap ∧ actOf st' = (actOf st).put o.dst v ∧ YieldsIf P ops C o v (actOf st) := by
          intro bb e1 e2 h1
          subst e1; subst e2
          have hsame := actOf_same t want hb
          obtain ⟨v, hn, hy⟩ := main (setN st.tmps t (.bool want)) hsame _ h1
          refine ⟨den v, _, hn, heap_put _ _ _, ?_, .inl ⟨by simp [Region.wanted, hg, hyl], hy⟩⟩
          rw [actOf_put, hsame]
        have no : ∀ bb : Bool, b = bb → want = !bb → N (({ st with tmps := setN st.tmps t (.bool bb) } : Sy).put o.dst (.raw undef)) →
            ∃ v st', N st' ∧ st'.heap = st.heap ∧ actOf st' = (actOf st).put o.dst v ∧ YieldsIf P ops C o v (actOf st) := by
          intro bb e1 e2 h1
          subst e1; subst e2
          have hsame := actOf_same t b hb
          refine ⟨undef, _, h1, heap_put _ _ _, ?_, .inr ⟨by simp [Region.wanted, hg, hyl], rfl⟩⟩
          rw [actOf_put, hsame]; rfl
        cases want <;> cases b
        · exact yes false rfl rfl hx
        · exact no true rfl rfl hx
        · exact no false rfl rfl hx
        · exact yes true rfl rfl hx
      · rename_i v hnb hv
        obtain ⟨hu, hx⟩ := hx
        rw [hv] at hyl
        have hd : den v = .tuple #[] := by
          unfold isUndef at hu
          split at hu
          · rename_i vs
            have : vs = #[] := by apply Array.eq_empty_of_size_eq_zero; simpa using hu
            subst this; rfl
          · cases hu
        simp only [Option.map_some, hd] at hyl
        exact ⟨undef, _, hx, heap_put _ _ _, actOf_put _ _ _, .inr ⟨by simp [Region.wanted, hg, hyl], rfl⟩⟩
      · exact (hS hx).elim
    · exact (hS hx).elim

theorem wpOp_guard (hC : AllOk P Cs) {st : Sy} {w : World} {j : Nat} {o : Oper} {N' : Sy → Prop} {K : Act → World → Prop} (ho : ops[j]? = some o) (hr : Rep W F st.heap w) (hx : xguard P Cs ops st o N' S) (hS : ¬ S)
    (hN : ∀ st', N' st' → ∀ w', Rep W F st'.heap w' → K (actOf st') w') : wpOp P ops Q j K (actOf st) w := by
  unfold wpOp
  rw [ho]
  simp only
  have yes : ∀ st1 : Sy, actOf st1 = actOf st → st1.heap = st.heap → Region.wanted o (yielded ops (actOf st).tmps) = true → xop P Cs st1 o N' S → if Region.wanted o (yielded ops (actOf st).tmps) = true then Oper.wp P o (actOf st) w K Q ∨ Oper.asks P o (actOf st) w ∧ LetsOut Q else K ((actOf st).put o.dst undef) w := by
    intro st1 h1 h2 hw h3
    rw [if_pos hw]
    rw [← h1]
    exact .inl (sound_xop hC S hN (by rw [h2]; exact hr) h3 (fun h => (hS h).elim))
  have no : ∀ st1 : Sy, actOf st1 = actOf st → st1.heap = st.heap → Region.wanted o (yielded ops (actOf st).tmps) = false → N' (st1.put o.dst (.raw undef)) → if Region.wanted o (yielded ops (actOf st).tmps) = true then Oper.wp P o (actOf st) w K Q ∨ Oper.asks P o (actOf st) w ∧ LetsOut Q else K ((actOf st).put o.dst undef) w := by
    intro st1 h1 h2 hw h3
    rw [if_neg (by rw [hw]; decide)]
    have := hN _ h3 w (by rw [heap_put, h2]; exact hr)
    rwa [actOf_put, h1] at this
  unfold xguard at hx
  split at hx
  · rename_i hg
    exact yes st rfl rfl (by simp [Region.wanted, hg]) hx
  · rename_i g want hg
    split at hx
    · rename_i t ht
      have hyl := yielded_slot (st := st) ht
      split at hx
      · rename_i b hb
        rw [hb] at hyl
        simp only [Option.map_some, den] at hyl
        have hsame := actOf_same t b hb
        cases want <;> cases b
        · exact yes _ hsame rfl (by simp [Region.wanted, hg, hyl]) hx
        · exact no _ hsame rfl (by simp [Region.wanted, hg, hyl]) hx
        · exact no _ hsame rfl (by simp [Region.wanted, hg, hyl]) hx
        · exact yes _ hsame rfl (by simp [Region.wanted, hg, hyl]) hx
      · rename_i v hnb hv
        obtain ⟨hu, hx⟩ := hx
        rw [hv] at hyl
        have hd : den v = .tuple #[] := by
          unfold isUndef at hu
          split at hu
          · rename_i vs
            have : vs = #[] := by apply Array.eq_empty_of_size_eq_zero; simpa using hu
            subst this; rfl
          · cases hu
        simp only [Option.map_some, hd] at hyl
        exact no st rfl rfl (by simp [Region.wanted, hg, hyl]) hx
      · exact (hS hx).elim
    · exact (hS hx).elim

theorem sound_xdraw (hC : AllOk P Cs) (hsel : Region.noSelect ops = true) (hQ : ∀ c d v a w, Q (.panic c) (Act.put a d v) w → Q (.panic c) a w) (hS : ¬ S) (hN : ∀ st, N st → ∀ w, Rep W F st.heap w → Q .normal (actOf st) w) :
    ∀ (n : Nat) (listed : Array Bool) (ok : Bool) (st : Sy) (w : World), Rep W F st.heap w → (ok = true → Rep W F h0 w) → xdraw P Cs ops kc ka h0 N S n listed ok st →
      wpAnyT P .any ops Q (keepN kc ka ops) (Rep W F h0) n listed (actOf st) w
  | 0, listed, ok, st, w, hr, hok, hx => by
    simp only [xdraw] at hx
    split at hx
    · rename_i e; exact ⟨e, hN _ hx w hr⟩
    · exact (hS hx).elim
  | n + 1, listed, ok, st, w, hr, hok, hx => by
    simp only [xdraw] at hx
    split at hx
    · rename_i i hi
      have htk := firstB_spec _ _ _ hi
      split at hx
      · rename_i o ho
        rw [nth_eq, Array.getElem?_toList] at ho
        simp only [takeB, ho, Bool.and_eq_true, Bool.or_eq_true] at htk
        obtain ⟨⟨⟨_, hrd⟩, hfr⟩, hcl⟩ := htk
        by_cases hst : stillB o = true
        · obtain ⟨v, st', hn, hh, ha, hy⟩ := sound_xtake (W := W) (F := F) (C := fun _ => True) (.inr hst) hx hS
          refine wpAnyT_first (S' := fun _ => True) ho (Region.noSelect_spec hsel) (fun c a w => hQ c o.dst v a w) n listed _ w (fun j oj hj hne hun hno => ⟨Region.free_spec ho hfr j oj hj hne hun hno, fun _ _ _ _ => trivial⟩) (by simpa using hrd) hy trivial ?_
          rw [← ha]
          exact sound_xdraw hC hsel hQ hS hN n _ ok st' w (by rw [hh]; exact hr) hok hn
        · have hst' : stillB o = false := by simpa using hst
          obtain ⟨hok1, hhold⟩ := hcl.resolve_left hst
          rw [hst'] at hx
          obtain ⟨v, st', hn, hh, ha, hy⟩ := sound_xtake (W := W) (F := F) (C := Rep W F h0) (.inl fun _ h => h) hx hS
          refine wpAnyT_first (S' := Rep W F h0) ho (Region.noSelect_spec hsel) (fun c a w => hQ c o.dst v a w) n listed _ w (fun j oj hj hne hun hno => ⟨Region.free_spec ho hfr j oj hj hne hun hno, ?_⟩) (by simpa using hrd) hy (hok hok1) ?_
          · intro w1 w2 hk hw1
            refine hk ?_ hw1
            simp only [holdB, List.all_eq_true, List.mem_range] at hhold
            have h1 := hhold j (Array.getElem?_eq_some_iff.1 hj).1
            simp only [hun, Bool.false_or, Bool.or_eq_true, beq_iff_eq, hne, false_or] at h1
            rcases h1 with h1 | h1
            · exact h1
            · obtain ⟨oj', hj', e, he, hb, hon⟩ := Region.waitsFor_spec h1
              rw [hj] at hj'; cases hj'
              exact absurd hon (hno e he hb)
          · rw [← ha]
            exact sound_xdraw hC hsel hQ hS hN n _ ok st' w (by rw [hh]; exact hr) hok hn
      · exact (hS hx).elim
    · split at hx
      · rename_i e
        exact ⟨fun _ => hN _ hx w hr, fun i hi => by rw [e] at hi; cases hi⟩
      · rename_i hne
        refine ⟨fun h => absurd h hne, fun j hj => ?_⟩
        have hx := allJ_mem hx j hj
        obtain ⟨_, o, ho, _⟩ := mem_ready.1 hj
        have ho' : nth ops.toList j = some o := by rw [nth_eq, Array.getElem?_toList]; exact ho
        rw [ho'] at hx
        simp only at hx
        split at hx
        · obtain ⟨v, st', hn, hh, ha, hy⟩ := sound_xtake (W := W) (F := F) (C := Rep W F st.heap) (.inl fun _ h => h) hx hS
          refine hy.wpOp ho hr ⟨fun _ h => h, ?_⟩
          rw [← ha]
          exact sound_xdraw hC hsel hQ hS hN n _ ok st' w (by rw [hh]; exact hr) hok hn
        split at hx
        · exact wpOp_guard hC ho hr hx hS fun st' hn w' hr' => ⟨fun _ _ => hr'.pre hn.1, sound_xdraw hC hsel hQ hS hN n _ ok st' w' hr' (fun _ => hr'.pre hn.1) hn.2⟩
        · rename_i hk
          refine wpOp_guard hC ho hr hx hS fun st' hn w' hr' => ⟨fun h => ?_, sound_xdraw hC hsel hQ hS hN n _ false st' w' hr' (fun h => by cases h) hn⟩
          rw [hk] at h; cases h
end

end Go.Proofs.Ytkcmgcoppecfpaa

/- The symbolic executor: functions, calls, loops, ends. -/
namespace Go.Proofs.Ytkcmgcoppecfpaa
open Go Go.RowKit
universe u

/-! ### Picking entries -/

def pickE (h : List Ent) : List Nat → Option (List Ent)
  | [] => some []
  | i :: π => match nth h i, pickE h π with
    | some e, some l => some (e :: l)
    | _, _ => none

def appE : List Ent → List Ent → List Ent
  | [], l => l
  | e :: h, l => e :: appE h l
theorem appE_eq (h l : List Ent) : appE h l = h ++ l := by
  induction h with
  | nil => rfl
  | cons e h ih => simp [appE, ih]

def putBack : List Nat → List Ent → List Ent → List Ent
  | [], h, h' => appE h h'
  | _ :: _, h, [] => h
  | i :: π, h, e :: h' => putBack π (setN h i e) h'

theorem HasAll.append {W : World} : ∀ {h h' : List Ent} {cs cs' : List Ch}, HasAll W h cs → HasAll W h' cs' → HasAll W (h ++ h') (cs ++ cs')
  | [], h', cs, cs', ha, ha' => by
    have : cs = [] := ha
    subst this; exact ha'
  | e :: h, h', cs, cs', ha, ha' => by
    obtain ⟨c, cs0, rfl, hc, ha⟩ := ha
    exact ⟨c, cs0 ++ cs', rfl, hc, ha.append ha'⟩

theorem putBack_set (i : Nat) (e : Ent) : ∀ (π : List Nat) (h h' : List Ent), i ∉ π → i < h.length → putBack π (h.set i e) h' = (putBack π h h').set i e
  | [], h, h', _, hi => by simp only [putBack, appE_eq]; rw [List.set_append_left _ _ hi]
  | _ :: _, h, [], _, _ => rfl
  | j :: π, h, e' :: h', hn, hi => by
    simp only [List.mem_cons, not_or] at hn
    simp only [putBack, setN_eq]
    rw [List.set_comm _ _ hn.1, putBack_set i e π _ h' hn.2 (by simpa using hi)]

theorem putBack_get (i : Nat) : ∀ (π : List Nat) (h h' : List Ent), i ∉ π → i < h.length → (putBack π h h')[i]? = h[i]?
  | [], h, h', _, hi => by simp only [putBack, appE_eq]; rw [List.getElem?_append_left hi]
  | _ :: _, h, [], _, _ => rfl
  | j :: π, h, e' :: h', hn, hi => by
    simp only [List.mem_cons, not_or] at hn
    simp only [putBack, setN_eq]
    rw [putBack_get i π _ h' hn.2 (by simpa using hi), List.getElem?_set_ne (fun e => hn.1 e.symm)]

theorem pickE_set (i : Nat) (e : Ent) (h : List Ent) : ∀ (π : List Nat), i ∉ π → pickE (h.set i e) π = pickE h π
  | [], _ => rfl
  | j :: π, hn => by
    simp only [List.mem_cons, not_or] at hn
    simp only [pickE, pickE_set i e h π hn.2, nth_eq]
    rw [List.getElem?_set_ne hn.1]

theorem HasAll.pick {W : World} : ∀ (π : List Nat) (h hp : List Ent), π.Nodup → pickE h π = some hp → ∀ cs, HasAll W h cs → ∃ cp G, HasAll W hp cp ∧ cs.flatten.Perm (cp ++ G).flatten ∧
    ∀ h' cs', hp.length ≤ h'.length → HasAll W h' cs' → ∃ r, HasAll W (putBack π h h') r ∧ (cs' ++ G).flatten.Perm r.flatten
  | [], h, hp, _, hpk, cs, ha => by
    simp only [pickE, Option.some.injEq] at hpk
    subst hpk
    refine ⟨[], cs, rfl, by simp, fun h' cs' _ ha' => ⟨cs ++ cs', ?_, ?_⟩⟩
    · simp only [putBack, appE_eq]; exact ha.append ha'
    · simp only [List.flatten_append]; exact List.perm_append_comm
  | i :: π, h, hp, hnd, hpk, cs, ha => by
    rw [List.nodup_cons] at hnd
    simp only [pickE] at hpk
    split at hpk
    · rename_i e l he hl
      cases hpk
      rw [nth_eq] at he
      have hlt : i < h.length := (List.getElem?_eq_some_iff.1 he).1
      obtain ⟨c, x, y, rfl, hc, hs⟩ := ha.get he
      have h0 := hs ⟨e.loc, .gone⟩ [] (by cases e.loc <;> rfl)
      obtain ⟨cp, G, h1, h2, h3⟩ := HasAll.pick π (h.set i ⟨e.loc, .gone⟩) l hnd.2 (by rw [pickE_set i _ h π hnd.1]; exact hl) _ h0
      refine ⟨c :: cp, G, ⟨c, cp, rfl, hc, h1⟩, ?_, ?_⟩
      · simp only [List.flatten_append, List.flatten_cons, List.nil_append, List.cons_append] at h2 ⊢
        refine List.Perm.trans ?_ (List.Perm.append_left c h2)
        rw [← List.append_assoc, ← List.append_assoc]
        exact List.Perm.append_right _ List.perm_append_comm
      · intro h' cs' hlen ha'
        cases h' with
        | nil => simp at hlen
        | cons e' h'' =>
          obtain ⟨c', cs'', rfl, hc', ha''⟩ := ha'
          obtain ⟨r, hr1, hr2⟩ := h3 h'' cs'' (by simpa using hlen) ha''
          have hi : (putBack π (h.set i ⟨e.loc, .gone⟩) h'')[i]? = some ⟨e.loc, .gone⟩ := by
            rw [putBack_get i π _ _ hnd.1 (by simpa using hlt)]; simp [hlt]
          obtain ⟨c0, x0, y0, rfl, hc0, hs0⟩ := hr1.get hi
          have hc0' : c0 = [] := by revert hc0; cases e.loc <;> exact id
          subst hc0'
          refine ⟨x0 ++ c' :: y0, ?_, ?_⟩
          · simp only [putBack, setN_eq]
            have h5 := hs0 e' c' hc'
            rw [putBack_set i _ π h h'' hnd.1 hlt] at h5
            rw [putBack_set i _ π h h'' hnd.1 hlt]
            simpa using h5
          · simp only [List.flatten_append, List.flatten_cons, List.nil_append, List.cons_append] at hr2 ⊢
            refine (List.Perm.append_left c' hr2).trans ?_
            rw [← List.append_assoc, ← List.append_assoc]
            exact List.Perm.append_right _ List.perm_append_comm
    · cases hpk

section
variable {W w : World} {F : List Ch}

theorem Rep.frame {π : List Nat} {h hp : List Ent} (hnd : π.Nodup) (hpk : pickE h π = some hp) (hr : Rep W F h w) :
    ∃ F', Rep W F' hp w ∧ ∀ h' w', hp.length ≤ h'.length → Rep W F' h' w' → Rep W F (putBack π h h') w' := by
  obtain ⟨cs, ha, hH⟩ := hr
  obtain ⟨cp, G, h1, h2, h3⟩ := ha.pick π h hp hnd hpk cs
  refine ⟨G ++ F, ⟨cp, h1, hH.perm ?_⟩, ?_⟩
  · simp only [List.flatten_append] at h2 ⊢
    rw [← List.append_assoc]
    exact List.Perm.append_right _ h2
  · rintro h' w' hlen ⟨cs', ha', hH'⟩
    obtain ⟨r, hr1, hr2⟩ := h3 h' cs' hlen ha'
    refine ⟨r, hr1, hH'.perm ?_⟩
    simp only [List.flatten_append] at hr2 ⊢
    rw [← List.append_assoc]
    exact List.Perm.append_right _ hr2

theorem Rep.pick {π : List Nat} {h hp : List Ent} (hnd : π.Nodup) (hpk : pickE h π = some hp) (hr : Rep W F h w) : Rep W F hp w := by
  obtain ⟨cs, ha, hH⟩ := hr
  obtain ⟨cp, G, h1, h2, _⟩ := ha.pick π h hp hnd hpk cs
  refine ⟨cp, h1, ?_⟩
  have : H W w (G ++ (cp ++ F)) := hH.perm (by
    simp only [List.flatten_append] at h2 ⊢
    refine (List.Perm.append_right _ h2).trans ?_
    rw [← List.append_assoc]
    exact List.Perm.append_right _ List.perm_append_comm)
  exact this.dropL

def Imp (W : World) : List Ent → List Ent → Prop
  | [], [] => True
  | e :: h, e' :: h' => (∀ c, has W e.loc e.obj c → has W e'.loc e'.obj c) ∧ Imp W h h'
  | _, _ => False

theorem HasAll.imp : ∀ {h h' : List Ent} {cs : List Ch}, Imp W h h' → HasAll W h cs → HasAll W h' cs
  | [], [], _, _, ha => ha
  | e :: h, e' :: h', cs, hi, ha => by
    obtain ⟨c, cs', rfl, hc, ha⟩ := ha
    exact ⟨c, cs', rfl, hi.1 c hc, ha.imp hi.2⟩
  | [], _ :: _, _, hi, _ => hi.elim
  | _ :: _, [], _, hi, _ => hi.elim

theorem Rep.imp {h h' : List Ent} (hi : Imp W h h') (hr : Rep W F h w) : Rep W F h' w := by
  obtain ⟨cs, ha, hH⟩ := hr
  exact ⟨cs, ha.imp hi, hH⟩
end

def distinct : List Nat → Bool
  | [] => true
  | i :: l => !l.contains i && distinct l
theorem distinct_nodup : ∀ l : List Nat, distinct l = true → l.Nodup
  | [], _ => List.nodup_nil
  | i :: l, h => by
    simp only [distinct, Bool.and_eq_true, Bool.not_eq_true', List.contains_eq_mem, decide_eq_false_iff_not] at h
    exact List.nodup_cons.2 ⟨h.1, distinct_nodup l h.2⟩

/-! ### Functions -/

def padTo : Nat → List SV → List SV
  | 0, _ => []
  | n + 1, [] => .raw undef :: padTo n []
  | n + 1, v :: l => v :: padTo n l

theorem padTo_eq : ∀ (n : Nat) (l : List SV), l.length ≤ n → denL (padTo n l) = denL l ++ List.replicate (n - l.length) undef
  | 0, l, h => by
    have : l = [] := List.eq_nil_of_length_eq_zero (by omega)
    subst this; rfl
  | n + 1, [], _ => by
    simp only [padTo, denL, List.nil_append, List.length_nil, Nat.sub_zero, List.replicate_succ]
    rw [padTo_eq n [] (by simp)]
    simp [den, denL]
  | n + 1, v :: l, h => by
    simp only [padTo, denL, List.cons_append, List.length_cons, Nat.add_sub_add_right]
    rw [padTo_eq n l (by simpa using h)]

def endQ (P : Program) (fn : Func) (W : World) (F : List Ch) (Post : List Ent → SV → Prop) : Exit → Act → World → Prop :=
  bodyPost P fn fun e w' => ∃ h' r, Post h' r ∧ e = .returned (den r) ∧ Rep W F h' w'

theorem Spec.of_G {P : Program} {f : FuncId} {hs : List Ent} {args : List SV} {Post : List Ent → SV → Prop} {fn : Func} {c : Code} (n : Nat) (hf : P.funcs[f]? = some fn) (hb : fn.body = some c) (hn : fn.ntmps = n) (hl : lenN args ≤ n)
    (hg : ∀ W F, G P (endQ P fn W F Post) W F [.code c] ⟨padTo n args, hs⟩) : Spec P f hs args Post := by
  intro W F w hr
  refine calls_of_wp hf hb ?_
  have h1 := hg W F w hr
  rw [lenN_eq] at hl
  have : (actOf ⟨padTo n args, hs⟩) = ⟨(denL args).toArray ++ Array.replicate (fn.ntmps - (denL args).toArray.size) undef, []⟩ := by
    unfold actOf
    congr 1
    rw [padTo_eq n args hl, hn]
    apply Array.ext'
    simp [length_denL]
  rw [← this]
  exact h1

def resOne (P : Program) (st : Sy) : ResultVar → Res
  | .tmp t => .ok (st.eval (.tmp t))
  | .cell t ty => xload P st ty (st.eval (.tmp t))
def resK (P : Program) (st : Sy) : List ResultVar → (List SV → Prop) → Prop
  | [], N => N []
  | x :: l, N => (resOne P st x).holds (fun v => resK P st l fun vs => N (v :: vs)) False
def resTuple : List SV → SV
  | [v] => v
  | vs => .tuple vs

section
variable {P : Program} {W w : World} {F : List Ch} {st : Sy}

def resSem (tmps : Array Value) : ResultVar → Sem Value
  | .tmp t => pure (tmps.getD t undef)
  | .cell a t => do loadVar t (← asAddr (tmps.getD a undef))

theorem run_resK (hr : Rep W F st.heap w) : ∀ (l : List ResultVar) (N : List SV → Prop), resK P st l N →
    ∃ vs, N vs ∧ (l.mapM (resSem (actOf st).tmps)).run P w = .ok (denL vs) w
  | [], N, h => ⟨[], h, rfl⟩
  | x :: l, N, h => by
    have key : ∀ v : SV, (resSem (actOf st).tmps x).run P w = .ok (den v) w → resK P st l (fun vs => N (v :: vs)) → ∃ vs, N vs ∧ ((x :: l).mapM (resSem (actOf st).tmps)).run P w = .ok (denL vs) w := by
      intro v h1 h2
      obtain ⟨vs, h3, h4⟩ := run_resK hr l _ h2
      refine ⟨v :: vs, h3, ?_⟩
      rw [List.mapM_cons]
      simp only [Sem.run_bind, h1, Result.andThen_ok, h4, Sem.run_pure, denL]
    simp only [resK] at h
    cases x with
    | tmp t =>
      refine key _ ?_ h
      have := den_eval st (.tmp t)
      rw [this]; rfl
    | cell t ty =>
      let o : Oper := { (default : Oper) with op := .load ty (.tmp t) }
      refine yields_xload (P := P) (W := W) (w := w) (F := F) (st := st) (o := o) False ty (.tmp t) rfl hr (fun v h1 h2 => key v ?_ h2) h False.elim
      simp only [execOp, o, Instr.loadAt, Sem.run_bind] at h1
      unfold resSem
      have hev : (actOf st).eval (.tmp t) = (actOf st).tmps.getD t undef := rfl
      rw [hev] at h1
      cases hv : (actOf st).tmps.getD t undef <;> rw [hv] at h1 <;> simp [Instr.sureAddr, asAddr] at h1 ⊢
      rename_i ao
      rw [Array.getD_eq_getD_getElem?] at hv
      rw [hv]
      cases ao with
      | none => simp [stuck] at h1
      | some a =>
        simp only [Sem.run_pure, Result.andThen_ok] at h1 ⊢
        cases hl : Sem.run P (loadVar ty a) w with
        | ok x w' => rw [hl] at h1; simpa using h1
        | halt x w' => rw [hl] at h1; simp [Result.andThen] at h1

theorem Fin_intro {fn : Func} {Post : List Ent → SV → Prop} (hv : resK P st fn.results.toList fun vs => Post st.heap (resTuple vs)) :
    Fin (endQ P fn W F Post) W F st := by
  intro w hr
  obtain ⟨vs, hp, hm⟩ := run_resK hr fn.results.toList _ hv
  refine ⟨rfl, den (resTuple vs), ?_, _, _, hp, rfl, hr⟩
  have e : results fn (actOf st).tmps = (do let vs ← fn.results.mapM (resSem (actOf st).tmps); pure (if h : vs.size = 1 then vs[0] else .tuple vs) : Sem Value) := by
    unfold results
    congr 2
  rw [e, Sem.run_bind, Array.mapM_eq_mapM_toList, Sem.run_map, hm]
  simp only [Result.andThen_ok, Sem.run_pure]
  congr 1
  cases vs with
  | nil => rfl
  | cons v vs =>
    cases vs with
    | nil => rfl
    | cons u vs => simp [resTuple, den, denL]

theorem G_end {fn : Func} {Post : List Ent → SV → Prop} (h : Fin (endQ P fn W F Post) W F st) : G P (endQ P fn W F Post) W F [] st := fun w hr => h w hr
end


/-! ### Calls -/

def wantedS (ops : Array Oper) (st : Sy) (o : Oper) : Prop :=
  match o.guard with
  | none => True
  | some (g, want) => match slotOf ops g with
    | some t => match nth st.tmps t with
      | some (.bool b) => b = want
      | _ => False
    | none => False

theorem wanted_of {ops : Array Oper} {st : Sy} {o : Oper} (h : wantedS ops st o) : Region.wanted o (yielded ops (actOf st).tmps) = true := by
  unfold wantedS at h
  unfold Region.wanted
  split at h
  · rename_i hg; rw [hg]
  · rename_i g want hg
    rw [hg]
    split at h
    · rename_i t ht
      have hy := yielded_slot (st := st) ht
      split at h
      · rename_i b hb
        rw [hb] at hy
        subst h
        simp only [hy, Option.map_some, den]; simp
      · exact h.elim
    · exact h.elim

section
variable {P : Program} {W w : World} {F : List Ch} {st : Sy} {o : Oper} {ops : Array Oper} {l : List Oper} {k : List Frm} {Q : Exit → Act → World → Prop}

theorem wpList_wanted {K : Act → World → Prop} {a : Act} (hw : Region.wanted o (yielded ops a.tmps) = true) (h : o.wp P a w (wpList P ops Q l) Q) : wpList P ops Q (o :: l) a w := by
  refine wpList_step fun K hK => ?_
  rw [if_pos hw]
  exact Oper.wp_mono hK h

theorem G_call {f : FuncId} {hp : List Ent} {args : List SV} {Post : List Ent → SV → Prop} (hsp : Spec P f hp args Post) (π : List Nat) {fv : Operand} {xs : Array Operand} {ts : Array TypeId} (ho : o.op = .call ⟨.value fv, xs, ts⟩)
    {first captured : List SV} (hfv : st.eval fv = .func (.func f) first captured) (hok : callOk P f = true) (hw : wantedS ops st o) (hnd : distinct π = true) (hpk : pickE st.heap π = some hp)
    (ha : denL first ++ (denL (evals st xs.toList) ++ denL captured) = denL args)
    (hn : ∀ h' r, Post h' r → lenN hp ≤ lenN h' ∧ G P Q W F (.ops ops l :: k) ({ st with heap := putBack π st.heap h' }.put o.dst r)) : G P Q W F (.ops ops (o :: l) :: k) st := by
  intro w hr
  refine wpList_wanted (K := fun _ _ => True) (wanted_of hw) ?_
  have h1 := den_eval st fv
  rw [hfv] at h1
  obtain ⟨F', hr', hback⟩ := hr.frame (distinct_nodup π hnd) hpk
  have hcall := hsp W F' w hr'
  rw [← ha] at hcall
  have hres : (execOp (actOf st).eval o).run P w = .ok (.enter f ((denL first).toArray ++ xs.map (actOf st).eval ++ (denL captured).toArray)) w := by
    unfold callOk at hok
    split at hok
    · rename_i fn hfn
      simp only [Bool.and_eq_true, bne_iff_ne, ne_eq] at hok
      have hb : fn.body.isNone = false := by cases hfb : fn.body <;> simp_all
      simp [execOp, ho, resolve, ← h1, den, Deferred.ofValue, invoke, callFunc, hfn, hok.1]
      intro hnone; rw [hnone] at hb; cases hb
    · cases hok
  unfold Oper.wp
  rw [hres]
  have harr : (denL first).toArray ++ xs.map (actOf st).eval ++ (denL captured).toArray = (denL first ++ (denL (evals st xs.toList) ++ denL captured)).toArray := by
    apply Array.ext'
    simp [denL_evals]
  rw [harr]
  refine Calls.mono hcall ?_
  rintro e w' ⟨h', r, hpost, rfl, hr2⟩
  obtain ⟨hlen, hg⟩ := hn h' r hpost
  rw [lenN_eq, lenN_eq] at hlen
  have h3 := hg w' (by rw [heap_put]; exact hback h' w' hlen hr2)
  rw [actOf_put] at h3
  exact h3

theorem G_eqv {st' : Sy} (h : G P Q W F k st') (ht : denL st.tmps = denL st'.tmps) (hh : ∀ w, Rep W F st.heap w → Rep W F st'.heap w) : G P Q W F k st := fun w hr => by
  have := h w (hh w hr)
  unfold actOf at *
  rw [ht]; exact this

/-! ### Loops -/

def mkT (u : Nat → Value) : Nat → Nat → List (Nat × SV) → List SV
  | 0, _, _ => []
  | n + 1, t, [] => .raw (u t) :: mkT u n (t + 1) []
  | n + 1, t, (s, v) :: live => if t = s then v :: mkT u n (t + 1) live else .raw (u t) :: mkT u n (t + 1) ((s, v) :: live)

def liveOk (tmps : List SV) : List (Nat × SV) → Prop
  | [] => True
  | (s, v) :: live => (match nth tmps s with | some v' => den v' = den v | none => False) ∧ liveOk tmps live

theorem mkT_eq (u : Nat → Value) (tmps : List SV) (hu : ∀ t, u t = den ((nth tmps t).getD (.raw undef))) : ∀ (n t : Nat) (live : List (Nat × SV)), t + n = tmps.length → liveOk tmps live → denL (mkT u n t live) = (denL tmps).drop t
  | 0, t, live, h, _ => by
    simp only [mkT, denL]
    rw [List.drop_eq_nil_of_le (by rw [length_denL]; omega)]
  | n + 1, t, [], h, hl => by
    have hlt : t < (denL tmps).length := by rw [length_denL]; omega
    have ih := mkT_eq u tmps hu n (t + 1) [] (by omega) hl
    simp only [mkT, denL, den, ih]
    rw [List.drop_eq_getElem_cons hlt, hu t, nth_eq]
    congr 1
    rw [length_denL] at hlt
    simp [hlt, denL_eq]
  | n + 1, t, (s, v) :: live, h, hl => by
    have hlt : t < (denL tmps).length := by rw [length_denL]; omega
    have hlt' : t < tmps.length := by omega
    rw [List.drop_eq_getElem_cons hlt]
    simp only [mkT]
    split
    · rename_i e; subst e
      have ih := mkT_eq u tmps hu n (t + 1) live (by omega) hl.2
      simp only [denL, ih]
      congr 1
      have h1 := hl.1
      rw [nth_eq] at h1
      simp only [List.getElem?_eq_getElem hlt'] at h1
      rw [← h1]; simp [denL_eq]
    · have ih := mkT_eq u tmps hu n (t + 1) ((s, v) :: live) (by omega) hl
      simp only [denL, den, ih]
      rw [hu t, nth_eq]
      congr 1
      simp [hlt', denL_eq]

def Back {ι : Type u} (W : World) (F : List Ch) (n : Nat) (live : ι → List (Nat × SV)) (hp : ι → List Ent) (φ : ι → Prop) (μ : ι → Nat) (m : Nat) (a : Act) (w : World) : Prop :=
  ∃ i u, φ i ∧ μ i < m ∧ a = actOf ⟨mkT u n 0 (live i), hp i⟩ ∧ Rep W F (hp i) w

theorem G_loop {ι : Type u} {body : Code} (n : Nat) (live : ι → List (Nat × SV)) (hp : ι → List Ent) (φ : ι → Prop) (μ : ι → Nat) (i0 : ι) (h0 : φ i0) (hlen : lenN st.tmps = n) (hlive : liveOk st.tmps (live i0))
    (hheap : ∀ w, Rep W F st.heap w → Rep W F (hp i0) w)
    (hround : ∀ i, φ i → ∀ u, G P Q W F (.code body :: .loop (Back W F n live hp φ μ (μ i)) :: k) ⟨mkT u n 0 (live i), hp i⟩) : G P Q W F (.code (.loop body) :: k) st := by
  intro w hr
  refine wp_loop_ghost (fun m a w => Back W F n live hp φ μ (m + 1) a w) (μ i0) ?_ ?_
  · refine ⟨i0, fun t => den ((nth st.tmps t).getD (.raw undef)), h0, by omega, ?_, hheap w hr⟩
    unfold actOf
    rw [lenN_eq] at hlen
    rw [mkT_eq _ st.tmps (fun _ => rfl) n 0 (live i0) (by omega) hlive]
    rfl
  · rintro m a w ⟨i, u, hi, hm, rfl, hr⟩
    refine Code.wp_mono ?_ (hround i hi u w hr)
    intro e a' w' hq
    cases e with
    | normal =>
      obtain ⟨i', u', hi', hm', ha, hr'⟩ := hq
      exact ⟨μ i', by omega, i', u', hi', by omega, ha, hr'⟩
    | _ => exact hq

theorem G_back {ι : Type u} {n : Nat} {live : ι → List (Nat × SV)} {hp : ι → List Ent} {φ : ι → Prop} {μ : ι → Nat} {m : Nat} (i : ι) (hi : φ i) (hm : μ i < m) (hlen : lenN st.tmps = n) (hlive : liveOk st.tmps (live i))
    (hheap : ∀ w, Rep W F st.heap w → Rep W F (hp i) w) : G P Q W F (.loop (Back W F n live hp φ μ m) :: k) st := by
  intro w hr
  refine ⟨i, fun t => den ((nth st.tmps t).getD (.raw undef)), hi, hm, ?_, hheap w hr⟩
  unfold actOf
  rw [lenN_eq] at hlen
  rw [mkT_eq _ st.tmps (fun _ => rfl) n 0 (live i) (by omega) hlive]
  rfl

theorem Rep.drew {h : List Ent} (hr : Rep W F h w) : Rep W F h w.drew := hr.move fun _ hL => hL.drew

end

end Go.Proofs.Ytkcmgcoppecfpaa

/- The symbolic executor: the run. -/
namespace Go.Proofs.Ytkcmgcoppecfpaa
open Go Go.RowKit
universe u

def popTo (id : Nat) : List Frm → Option (List Frm)
  | .blk i :: k => if i = id then some k else popTo id k
  | _ :: k => popTo id k
  | [] => none

def memN (n : Nat) : List Nat → Bool
  | [] => false
  | m :: l => match Nat.beq m n with
    | true => true
    | false => memN n l

def firstReg : Code → Nat
  | .region i _ _ => i
  | .seq a _ => firstReg a
  | .cond _ a _ => firstReg a
  | .block _ c => firstReg c
  | .loop c => firstReg c
  | _ => 0

def run (P : Program) (Cs : Tbl) (kc : Bool) (ss : List Nat) (K : List Frm → Sy → Prop) (R : Sy → Prop) : Nat → List Frm → Sy → Prop
  | 0, k, st => K k st
  | _ + 1, [], st => R st
  | n + 1, .code c :: k, st => match c with
    | .skip => run P Cs kc ss K R n k st
    | .label _ => run P Cs kc ss K R n k st
    | .seq a b => run P Cs kc ss K R n (.code a :: .code b :: k) st
    | .cond (.tmp t) a b => match nth st.tmps t with
      | some (.bool b') => match b' with
        | true => run P Cs kc ss K R n (.code a :: k) { st with tmps := setN st.tmps t (.bool true) }
        | false => run P Cs kc ss K R n (.code b :: k) { st with tmps := setN st.tmps t (.bool false) }
      | _ => K (.code (.cond (.tmp t) a b) :: k) st
    | .block id c => run P Cs kc ss K R n (.code c :: .blk id :: k) st
    | .exit id => match popTo id k with
      | some k' => run P Cs kc ss K R n k' st
      | none => K (.code (.exit id) :: k) st
    | .ret => R st
    | .region id ops dr => match memN id ss with
      | true => K (.code (.region id ops dr) :: k) st
      | false => match dr with
        | false => run P Cs kc ss K R n (.ops ops ops.toList :: k) st
        | true => match Region.noSelect ops with
          | true => xdraw P Cs ops kc (hasP ss) (preH ss st.heap) (fun st' => run P Cs kc ss K R n k st') (K (.code (.region id ops true) :: k) st) ops.size (Array.replicate ops.size false) true st
          | false => K (.code (.region id ops true) :: k) st
    | .cond x a b => K (.code (.cond x a b) :: k) st
    | .loop c => match memN (Nat.add 100000 (firstReg c)) ss with
      | true => run P Cs kc ss K R n (.un c 50 :: k) st
      | false => K (.code (.loop c) :: k) st
    | c => K (.code c :: k) st
  | n + 1, .blk _ :: k, st => run P Cs kc ss K R n k st
  | n + 1, .ops ops l :: k, st => match l with
    | [] => run P Cs kc ss K R n k st
    | o :: l => xguard P Cs ops st o (fun st' => run P Cs kc ss K R n (.ops ops l :: k) st') (K (.ops ops (o :: l) :: k) st)
  | _ + 1, .loop J :: k, st => K (.loop J :: k) st
  | n + 1, .un c m :: k, st => match m with
    | 0 => K (.un c 0 :: k) st
    | m + 1 => run P Cs kc ss K R n (.code c :: .un c m :: k) st

theorem post_exit {P : Program} {Q : Exit → Act → World → Prop} (id : Nat) (a : Act) (w : World) : ∀ (k k' : List Frm), popTo id k = some k' → post P Q k' .normal a w → post P Q k (.exit id) a w
  | [], k', h, _ => by simp [popTo] at h
  | .blk i :: k, k', h, hp => by
    simp only [popTo] at h
    show Exit.inBlock i (post P Q k) (.exit id) a w
    split at h
    · rename_i hi; subst hi; cases h; simp [Exit.inBlock, hp]
    · rename_i hi
      simp only [Exit.inBlock]
      rw [if_neg (fun e => hi e.symm)]
      exact post_exit id a w k k' h hp
  | .code c :: k, k', h, hp => post_exit id a w k k' h hp
  | .ops o l :: k, k', h, hp => post_exit id a w k k' h hp
  | .loop J :: k, k', h, hp => post_exit id a w k k' h hp
  | .un _ _ :: k, k', h, hp => post_exit id a w k k' h hp

theorem post_ret {P : Program} {Q : Exit → Act → World → Prop} (a : Act) (w : World) : ∀ (k : List Frm), Q .ret a w → post P Q k .ret a w
  | [], h => h
  | .blk i :: k, h => post_ret a w k h
  | .code c :: k, h => post_ret a w k h
  | .ops o l :: k, h => post_ret a w k h
  | .loop J :: k, h => post_ret a w k h
  | .un _ _ :: k, h => post_ret a w k h

theorem post_panic {P : Program} {Q : Exit → Act → World → Prop} (hQ : ∀ c d v a w, Q (.panic c) (Act.put a d v) w → Q (.panic c) a w) : ∀ (k : List Frm) c d v a w, post P Q k (.panic c) (Act.put a d v) w → post P Q k (.panic c) a w
  | [] => hQ
  | .blk i :: k => fun c d v a w h => post_panic hQ k c d v a w h
  | .code _ :: k => fun c d v a w h => post_panic hQ k c d v a w h
  | .ops _ _ :: k => fun c d v a w h => post_panic hQ k c d v a w h
  | .loop _ :: k => fun c d v a w h => post_panic hQ k c d v a w h
  | .un _ _ :: k => fun c d v a w h => post_panic hQ k c d v a w h

theorem run_sound {P : Program} {Cs : Tbl} {kc : Bool} {ss : List Nat} {W : World} {F : List Ch} {Q : Exit → Act → World → Prop} {R : Sy → Prop} {K : List Frm → Sy → Prop} (hK : ∀ k st, K k st → G P Q W F k st) (hC : AllOk P Cs) (hm : P.follows .mixedOrders = true) (hQ : ∀ c d v a w, Q (.panic c) (Act.put a d v) w → Q (.panic c) a w)
    (hR : ∀ st, R st → Fin Q W F st) (hE : ∀ a w, Q .ret a w → Q .normal a w) : ∀ (n : Nat) (k : List Frm) (st : Sy), run P Cs kc ss K R n k st → G P Q W F k st
  | 0, k, st, h => hK _ _ h
  | n + 1, [], st, h => fun w hr => hE _ _ (hR st h w hr)
  | n + 1, .code c :: k, st, h => by
    cases c with
    | skip => exact fun w hr => wp_skip (swp_normal _ _ _ (run_sound hK hC hm hQ hR hE n k st h w hr))
    | label l => exact fun w hr => wp_label (swp_normal _ _ _ (run_sound hK hC hm hQ hR hE n k st h w hr))
    | seq a b => exact fun w hr => wp_seq (run_sound hK hC hm hQ hR hE n _ st h w hr)
    | cond x a b =>
      cases x with
      | tmp t =>
        simp only [run] at h
        split at h
        · rename_i b' hb
          intro w hr
          have hc : (actOf st).eval (.tmp t) = .bool b' := by
            rw [← den_eval]; simp [Sy.eval, hb, den]
          cases b' with
          | true =>
            have h1 := run_sound hK hC hm hQ hR hE n _ _ h w hr
            rw [actOf_same t true hb] at h1
            exact wp_cond hc h1
          | false =>
            have h1 := run_sound hK hC hm hQ hR hE n _ _ h w hr
            rw [actOf_same t false hb] at h1
            exact wp_cond hc h1
        · exact hK _ _ h
      | _ => exact hK _ _ h
    | block id c => exact fun w hr => wp_block (run_sound hK hC hm hQ hR hE n _ st h w hr)
    | exit id =>
      simp only [run] at h
      split at h
      · rename_i k' hk
        exact fun w hr => wp_exit (post_exit id _ _ k k' hk (swp_normal _ _ _ (run_sound hK hC hm hQ hR hE n k' st h w hr)))
      · exact hK _ _ h
    | ret => exact fun w hr => wp_ret (post_ret _ _ k (hR _ h w hr))
    | region id ops dr =>
      simp only [run] at h
      split at h
      · exact hK _ _ h
      · cases dr with
        | false => exact fun w hr => wp_region_list (run_sound hK hC hm hQ hR hE n (.ops ops ops.toList :: k) st h w hr)
        | true =>
          simp only at h
          split at h
          · rename_i hs
            by_cases hS : K (.code (.region id ops true) :: k) st
            · exact hK _ _ hS
            · intro w hr
              have hd : Rep W F st.heap w.drew := hr.drew
              refine wp_region_any hm (wpAnyT.any _ _ _ _ (sound_xdraw (W := W) (F := F) (Q := post P Q k) hC hs (post_panic hQ k) hS (fun st' h1 w' h2 => swp_normal _ _ _ (run_sound hK hC hm hQ hR hE n k st' h1 w' h2)) _ _ true st w.drew hd (fun _ => hd.pre (preH_pre _ _)) h))
          · exact hK _ _ h
    | loop c =>
      simp only [run] at h
      split at h
      · exact fun w hr => wp_loop_rounds 50 (run_sound hK hC hm hQ hR hE n (.un c 50 :: k) st h w hr)
      · exact hK _ _ h
    | _ => exact hK _ _ h
  | n + 1, .blk _ :: k, st, h => fun w hr => swp_normal _ _ _ (run_sound hK hC hm hQ hR hE n k st h w hr)
  | n + 1, .ops ops [] :: k, st, h => fun w hr => wpList_nil (P := P) (ops := ops) (swp_normal _ _ _ (run_sound hK hC hm hQ hR hE n k st h w hr))
  | n + 1, .ops ops (o :: l) :: k, st, h => fun w hr =>
    sound_xguard hC (Q := post P Q k) (N := fun st' => run P Cs kc ss K R n (.ops ops l :: k) st') (K (.ops ops (o :: l) :: k) st) (fun st' h1 w' h2 => run_sound hK hC hm hQ hR hE n (.ops ops l :: k) st' h1 w' h2) hr h (fun hg => hK _ _ hg) (fun _ _ _ hg => hK _ _ hg w hr)
  | n + 1, .loop J :: k, st, h => hK _ _ h
  | n + 1, .un c 0 :: k, st, h => hK _ _ h
  | n + 1, .un c (m + 1) :: k, st, h => fun w hr => run_sound hK hC hm hQ hR hE n (.code c :: .un c m :: k) st h w hr

theorem endQ_panic {P : Program} {fn : Func} {W : World} {F : List Ch} {Post : List Ent → SV → Prop} : ∀ c d v a w, endQ P fn W F Post (.panic c) (Act.put a d v) w → endQ P fn W F Post (.panic c) a w := by
  intro c d v a w h
  exact ⟨by have := h.1; cases d <;> exact this, h.2⟩

def retP (P : Program) (rs : List ResultVar) (Post : List Ent → SV → Prop) (st : Sy) : Prop := resK P st rs fun vs => Post st.heap (resTuple vs)

theorem Fin_retP {P : Program} {fn : Func} {W : World} {F : List Ch} {Post : List Ent → SV → Prop} (st : Sy) (h : retP P fn.results.toList Post st) : Fin (endQ P fn W F Post) W F st := Fin_intro h

theorem G_run {P : Program} {Cs : Tbl} {kc : Bool} {ss : List Nat} {fn : Func} {W : World} {F : List Ch} {Post : List Ent → SV → Prop} (hC : AllOk P Cs) (hm : P.follows .mixedOrders = true) (n : Nat) {k : List Frm} {st : Sy}
    (h : run P Cs kc ss (G P (endQ P fn W F Post) W F) (retP P fn.results.toList Post) n k st) : G P (endQ P fn W F Post) W F k st :=
  run_sound (fun _ _ h => h) hC hm endQ_panic Fin_retP (fun _ _ h => h) n k st h

theorem Spec.of_run {P : Program} {Cs : Tbl} {kc : Bool} {ss : List Nat} {f : FuncId} {hs : List Ent} {args : List SV} {Post : List Ent → SV → Prop} {fn : Func} {c : Code} (n m : Nat) (hC : AllOk P Cs) (hm : P.follows .mixedOrders = true) (hf : P.funcs[f]? = some fn) (hb : fn.body = some c) (hn : fn.ntmps = n) (hl : Nat.ble (lenN args) n = true)
    (hg : ∀ W F, run P Cs kc ss (G P (endQ P fn W F Post) W F) (retP P fn.results.toList Post) m [.code c] ⟨padTo n args, hs⟩) : Spec P f hs args Post :=
  Spec.of_G n hf hb hn (Nat.le_of_ble_eq_true hl) fun W F => G_run hC hm m (hg W F)

theorem Spec.at {P : Program} {f : FuncId} {hs hp : List Ent} {args args' : List SV} {Post Post' : List Ent → SV → Prop} (π : List Nat) (hnd : distinct π = true) (hpk : pickE hs π = some hp) (hsp : Spec P f hp args' Post') (ha : denL args = denL args')
    (hpost : ∀ h' r, Post' h' r → lenN hp ≤ lenN h' ∧ ∃ r', den r = den r' ∧ Post (putBack π hs h') r') : Spec P f hs args Post := by
  intro W F w hr
  obtain ⟨F', hr', hback⟩ := hr.frame (distinct_nodup π hnd) hpk
  rw [ha]
  refine Calls.mono (hsp W F' w hr') ?_
  rintro e w' ⟨h', r, hp', rfl, hr2⟩
  obtain ⟨hlen, r', hd, hq⟩ := hpost h' r hp'
  rw [lenN_eq, lenN_eq] at hlen
  exact ⟨_, r', hq, by rw [hd], hback h' w' hlen hr2⟩

def codeAt : Code → List Nat → Code
  | .seq a _, 0 :: l => codeAt a l
  | .seq _ b, _ :: l => codeAt b l
  | .cond _ a _, 0 :: l => codeAt a l
  | .cond _ _ b, _ :: l => codeAt b l
  | .block _ c, _ :: l => codeAt c l
  | .loop c, _ :: l => codeAt c l
  | c, _ => c
def opsAt (c : Code) (l : List Nat) : Array Oper :=
  match codeAt c l with
  | .region _ ops _ => ops
  | _ => #[]
def bodyOf (fn : Func) : Code := fn.body.getD .skip

def pathOf : Code → Nat → Option (List Nat)
  | .region i _ _, r => match Nat.beq i r with
    | true => some []
    | false => none
  | .seq a b, r => match pathOf a r with
    | some l => some (0 :: l)
    | none => match pathOf b r with
      | some l => some (1 :: l)
      | none => none
  | .cond _ a b, r => match pathOf a r with
    | some l => some (0 :: l)
    | none => match pathOf b r with
      | some l => some (1 :: l)
      | none => none
  | .block _ c, r => match pathOf c r with
    | some l => some (0 :: l)
    | none => none
  | .loop c, r => match pathOf c r with
    | some l => some (0 :: l)
    | none => none
  | _, _ => none

def frm : List (Act → World → Prop) → Code → List Nat → List Frm → List Frm
  | _, c, [], k => .code c :: k
  | Js, .seq a b, 0 :: l, k => frm Js a l (.code b :: k)
  | Js, .seq _ b, _ :: l, k => frm Js b l k
  | Js, .cond _ a _, 0 :: l, k => frm Js a l k
  | Js, .cond _ _ b, _ :: l, k => frm Js b l k
  | Js, .block id c, _ :: l, k => frm Js c l (.blk id :: k)
  | J :: Js, .loop c, _ :: l, k => frm Js c l (.loop J :: k)
  | _, c, _, k => .code c :: k

def frmR (Js : List (Act → World → Prop)) (c : Code) (r : Nat) : List Frm :=
  match pathOf c r with
  | some l => frm Js c l []
  | none => []

theorem G_loopAt {P : Program} {Q : Exit → Act → World → Prop} {W : World} {F : List Ch} {st : Sy} {ι : Type u} (Js : List (Act → World → Prop)) (c : Code) (l : List Nat) (n : Nat) (live : ι → List (Nat × SV)) (hp : ι → List Ent) (φ : ι → Prop) (μ : ι → Nat) (i0 : ι)
    (e1 : frm Js c l [] = .code (.loop (codeAt c (l ++ [0]))) :: (frm Js c l []).tail) (e2 : ∀ J, frm (Js ++ [J]) c (l ++ [0]) [] = .code (codeAt c (l ++ [0])) :: .loop J :: (frm Js c l []).tail)
    (h0 : φ i0) (hlen : lenN st.tmps = n) (hlive : liveOk st.tmps (live i0)) (hheap : ∀ w, Rep W F st.heap w → Rep W F (hp i0) w)
    (hround : ∀ i, φ i → ∀ u, G P Q W F (frm (Js ++ [Back W F n live hp φ μ (μ i)]) c (l ++ [0]) []) ⟨mkT u n 0 (live i), hp i⟩) : G P Q W F (frm Js c l []) st := by
  rw [e1]
  refine G_loop n live hp φ μ i0 h0 hlen hlive hheap fun i hi u => ?_
  have := hround i hi u
  rw [e2] at this
  exact this

theorem Spec.lift {P : Program} {f : FuncId} {args : List SV} {Φ : SV → Prop} {hs : List Ent} {N : List Ent → SV → Prop} (h : Spec P f [] args fun _ r => Φ r) (hN : ∀ r, Φ r → N hs r) : Spec P f hs args N := by
  rintro W F w ⟨cs, ha, hH⟩
  refine Calls.mono (h W (cs ++ F) w ⟨[], rfl, hH⟩) ?_
  rintro e w' ⟨h', r, hp, rfl, cs', ha', hH'⟩
  exact ⟨hs, r, hN r hp, rfl, cs, ha, hH'.dropL⟩

theorem Spec.pureG {P : Program} {f : FuncId} {args : List SV} {fn : Func} {v : SV} {hs : List Ent} {N : List Ent → SV → Prop} (n : Nat) (hf : P.funcs[f]? = some fn) (hb : fn.body = some (bodyOf fn)) (hn : fn.ntmps = n) (hl : Nat.ble (lenN args) n = true)
    (h : N hs v) (hg : ∀ W F, G P (endQ P fn W F fun _ r => r = v) W F [.code (bodyOf fn)] ⟨padTo n args, []⟩) : Spec P f hs args N :=
  Spec.lift (Spec.of_G n hf hb hn (Nat.le_of_ble_eq_true hl) hg) (by rintro _ rfl; exact h)

theorem Spec.pure {P : Program} {Cs : Tbl} {kc : Bool} {ss : List Nat} {f : FuncId} {args : List SV} {fn : Func} {v : SV} {hs : List Ent} {N : List Ent → SV → Prop} (m n : Nat) (hC : AllOk P Cs) (hm : P.follows .mixedOrders = true) (hf : P.funcs[f]? = some fn) (hb : fn.body = some (bodyOf fn)) (hn : fn.ntmps = n) (hl : Nat.ble (lenN args) n = true)
    (h : N hs v) (hg : ∀ K, run P Cs kc ss K (retP P fn.results.toList fun _ r => r = v) m [.code (bodyOf fn)] ⟨padTo n args, []⟩) : Spec P f hs args N :=
  Spec.pureG n hf hb hn hl h fun W F => G_run hC hm m (hg _)

def inl (P : Program) (Cs : Tbl) (kc : Bool) (fn : Func) (fuel : Nat) : Ctr := fun args hs N =>
  match Nat.ble (lenN args) fn.ntmps with
  | true => run P Cs kc [] (fun _ _ => False) (retP P fn.results.toList N) fuel [.code (bodyOf fn)] ⟨padTo fn.ntmps args, hs⟩
  | false => False

def inlS (P : Program) (Cs : Tbl) (kc : Bool) (ss : List Nat) (fn : Func) (fuel : Nat) : Ctr := fun args hs N =>
  match Nat.ble (lenN args) fn.ntmps with
  | true => run P Cs kc ss (fun _ _ => False) (retP P fn.results.toList N) fuel [.code (bodyOf fn)] ⟨padTo fn.ntmps args, hs⟩
  | false => False

theorem inlS_ok {P : Program} {Cs : Tbl} {kc : Bool} {ss : List Nat} {f : FuncId} {fn : Func} {fuel : Nat} (hC : AllOk P Cs) (hm : P.follows .mixedOrders = true) (hf : P.funcs[f]? = some fn) (hb : fn.body = some (bodyOf fn)) : CtrOk P f (inlS P Cs kc ss fn fuel) := by
  intro args hs N h
  unfold inlS at h
  split at h
  · rename_i hl
    exact Spec.of_G fn.ntmps hf hb rfl (Nat.le_of_ble_eq_true hl) fun W F => run_sound (fun _ _ h => h.elim) hC hm endQ_panic Fin_retP (fun _ _ h => h) fuel _ _ h
  · exact h.elim

theorem inl_ok {P : Program} {Cs : Tbl} {kc : Bool} {f : FuncId} {fn : Func} {fuel : Nat} (hC : AllOk P Cs) (hm : P.follows .mixedOrders = true) (hf : P.funcs[f]? = some fn) (hb : fn.body = some (bodyOf fn)) : CtrOk P f (inl P Cs kc fn fuel) := by
  intro args hs N h
  unfold inl at h
  split at h
  · rename_i hl
    exact Spec.of_G fn.ntmps hf hb rfl (Nat.le_of_ble_eq_true hl) fun W F => run_sound (fun _ _ h => h.elim) hC hm endQ_panic Fin_retP (fun _ _ h => h) fuel _ _ h
  · exact h.elim
end Go.Proofs.Ytkcmgcoppecfpaa

/- From a contract to the row; a state said by its live slots alone. -/
namespace Go.Proofs.Ytkcmgcoppecfpaa
open Go Go.RowKit

theorem H.none (W : World) : H W W [] := ⟨St.refl W, List.nodup_nil, fun b o hb => by simp at hb, fun b o hb => by simp at hb, fun _ _ => rfl⟩

theorem Below.of_H {W w : World} {L : List Ch} (h : H W w L) : Below W.heap.size W w := ⟨h.st.os, h.st.tape, h.st.output, h.st.size, h.old⟩

theorem Spec.row {P : Program} {f : FuncId} {args : List SV} {v : SV} (h : Spec P f [] args fun _ r => r = v) (W : World) :
    Calls P f (denL args).toArray W fun e W' => e = .returned (den v) ∧ Below W.heap.size W W' := by
  refine Calls.mono (h W [] W ⟨[], rfl, H.none W⟩) ?_
  rintro e W' ⟨h', r, rfl, rfl, cs, _, hH⟩
  exact ⟨rfl, Below.of_H hH⟩

theorem Spec.rowR {P : Program} {f : FuncId} {args : List SV} {v : SV} {hs : List Ent} {W : World} (he : ∀ e ∈ hs, has W e.loc e.obj []) (h : Spec P f hs args fun _ r => r = v) :
    Calls P f (denL args).toArray W fun e W' => e = .returned (den v) ∧ Below W.heap.size W W' := by
  have ha : ∀ (hs : List Ent), (∀ e ∈ hs, has W e.loc e.obj []) → ∃ cs, HasAll W hs cs ∧ cs.flatten = [] := by
    intro hs
    induction hs with
    | nil => intro _; exact ⟨[], rfl, rfl⟩
    | cons e hs ih =>
      intro he
      obtain ⟨cs, h1, h2⟩ := ih fun e' he' => he e' (List.mem_cons_of_mem _ he')
      exact ⟨[] :: cs, ⟨[], cs, rfl, he e List.mem_cons_self, h1⟩, by simpa using h2⟩
  obtain ⟨cs, h1, h2⟩ := ha hs he
  refine Calls.mono (h W [] W ⟨cs, h1, (H.none W).perm (by simp [h2])⟩) ?_
  rintro e W' ⟨h', r, rfl, rfl, cs', _, hH⟩
  exact ⟨rfl, Below.of_H hH⟩

theorem sEq_self (a : ByteArray) : sEq a a = true := by simp [sEq]

theorem i64_range {n : Int} (h : (Lit.int .i64 n).wf = true) : -9223372036854775808 ≤ n ∧ n ≤ 9223372036854775807 := by
  simp only [Lit.wf, Bool.and_eq_true, decide_eq_true_eq] at h
  exact h

theorem G_live {P : Program} {Q : Exit → Act → World → Prop} {W : World} {F : List Ch} {k : List Frm} {st : Sy} (n : Nat) (live : List (Nat × SV)) (hp : List Ent) (hlen : lenN st.tmps = n) (hlive : liveOk st.tmps live)
    (hheap : ∀ w, Rep W F st.heap w → Rep W F hp w) (h : ∀ u, G P Q W F k ⟨mkT u n 0 live, hp⟩) : G P Q W F k st := by
  refine G_eqv (h fun t => den ((nth st.tmps t).getD (.raw undef))) ?_ hheap
  rw [lenN_eq] at hlen
  rw [mkT_eq _ st.tmps (fun _ => rfl) n 0 live (by omega) hlive]
  rfl

def cutA (ao : Option Addr) (cap sz k : Nat) : Option Addr := if cap = k then ao else ao.map (·.add (k * sz))
theorem den_cut (l : Nat) (ao : Option Addr) (cap sz k n : Nat) : den (.sub l ao cap sz k n) = den (.vec l (cutA ao cap sz k) (n - k) (cap - k)) := rfl

theorem flatV_drop {α : Type} {enc : α → List SV} {sz : Nat} (h : ∀ x, (enc x).length = sz) : ∀ (xs : List α) (k : Nat), flatV enc (xs.drop k) = (flatV enc xs).drop (k * sz)
  | xs, 0 => by simp
  | [], k + 1 => by simp [flatV]
  | x :: xs, k + 1 => by
    have ih := flatV_drop h xs k
    simp only [List.drop_succ_cons, ih]
    have e : flatV enc (x :: xs) = denL (enc x) ++ flatV enc xs := by simp [flatV]
    have hl : (denL (enc x)).length = sz := by rw [length_denL, h]
    have e2 : (denL (enc x) ++ flatV enc xs).drop sz = flatV enc xs := by
      have := List.drop_left (l₁ := denL (enc x)) (l₂ := flatV enc xs)
      rwa [hl] at this
    rw [e, Nat.succ_mul, Nat.add_comm (k * sz) sz, ← List.drop_drop, e2]

section
variable {W w : World} {F : List Ch}
theorem Rep.cut {h : List Ent} {l cap sz k : Nat} {ao : Option Addr} {α : Type} {enc : α → List SV} {xs : List α} {d : α} {T : TypeId} (hl : nth h l = some ⟨.sl ao cap, .vecL T sz enc xs d⟩) (hk : k ≤ xs.length) (hr : Rep W F h w) :
    Rep W F (setN h l ⟨.sl (cutA ao cap sz k) (cap - k), .vecL T sz enc (xs.drop k) d⟩) w := by
  obtain ⟨c, L, ⟨⟨h1, h2, h3⟩, hel⟩, hH, hput⟩ := hr.get hl
  have hfl := flatV_drop hel xs k
  refine hput _ c w ⟨⟨?_, ?_, ?_⟩, hel⟩ hH
  · rw [length_flatV hel]
  · simp only [List.length_drop]; omega
  · rcases h3 with ⟨rfl, rfl, rfl⟩ | ⟨g, off, cur, rfl, rfl, hs, ht⟩
    · have : k = 0 := by omega
      subst this
      exact .inl ⟨by simp [cutA], by simp, rfl⟩
    · by_cases hck : cap = k
      · have hx : xs.drop k = [] := List.drop_eq_nil_of_le (by omega)
        refine .inr ⟨g, off, cur, by simp [cutA, hck], rfl, ?_, ?_⟩
        · rw [hck, Nat.sub_self, Nat.zero_mul]
          have : 0 ≤ cap * sz := Nat.zero_le _
          omega
        · rw [hx]; simp [flatV]
      · refine .inr ⟨g, off + k * sz, cur, by simp [cutA, hck, Addr.add_mid'], rfl, ?_, ?_⟩
        · have : (cap - k) * sz + k * sz = cap * sz := by rw [← Nat.add_mul]; congr 1; omega
          omega
        · rw [hfl, ← ht, List.length_drop, ← List.drop_drop, List.drop_take, Nat.sub_mul]

theorem Rep.front {h h' : List Ent} (hr : Rep W F h' w) (hp : PreE h h') : Rep W F h w := hr.pre hp

theorem Rep.cellsEq {h : List Ent} {l b : Nat} {cs cs' : List SV} {T : TypeId} (hl : nth h l = some ⟨.blk b, .cells cs T⟩) (hd : denL cs = denL cs') (hr : Rep W F h w) : Rep W F (setN h l ⟨.blk b, .cells cs' T⟩) w := by
  obtain ⟨c, L, hc, hH, hput⟩ := hr.get hl
  refine hput ⟨.blk b, .cells cs' T⟩ c w ?_ hH
  have hc' : c = [(b, .cells (denL cs).toArray T (0, 0))] := hc
  subst hc'
  show _ = _
  rw [hd]

theorem Rep.mapEq {h : List Ent} {l b : Nat} {kd : Option KK} {es es' : List (Key × SV)} (hl : nth h l = some ⟨.blk b, .mapV kd es⟩) (hk : ∀ e ∈ es', keyKind e.1 = kd) (hd : (es.map fun e => (den e.1.sv, den e.2)) = es'.map fun e => (den e.1.sv, den e.2)) (hr : Rep W F h w) : Rep W F (setN h l ⟨.blk b, .mapV kd es'⟩) w := by
  obtain ⟨c, L, hc, hH, hput⟩ := hr.get hl
  refine hput ⟨.blk b, .mapV kd es'⟩ c w ?_ hH
  obtain ⟨_, ents, clock, h1, h0, h2⟩ := hc
  exact ⟨hk, ents, clock, h1, h0, h2.trans hd⟩

theorem G_vec {P : Program} {Q : Exit → Act → World → Prop} {W : World} {F : List Ch} {k : List Frm} {st : Sy} {cap sz : Nat} {ao : Option Addr} {α : Type} {enc : α → List SV} {xs : List α} {d : α} {T : TypeId} (l : Nat) (hl : nth st.heap l = some ⟨.sl ao cap, .vecL T sz enc xs d⟩)
    (h : xs.length ≤ cap → (0 < xs.length → ao.isNone = false) → G P Q W F k st) : G P Q W F k st := fun w hr => by
  obtain ⟨_, h1, h2, _⟩ := hr.vec hl
  exact h h1 (fun h0 => by rw [h2 h0]; rfl) w hr

theorem Rep.nilvec {h : List Ent} (T : TypeId) {sz : Nat} {α : Type} {enc : α → List SV} (d : α) (he : ∀ x, (enc x).length = sz) (hr : Rep W F h w) : Rep W F (snoc h ⟨.sl none 0, .vecL T sz enc [] d⟩) w :=
  hr.new (c := []) ⟨by simpa [flatV] using Own.nil T sz, he⟩ fun L hL => hL.perm (by simp)
end

theorem Spec.know {P : Program} {f : FuncId} {hs : List Ent} {args : List SV} {Post : List Ent → SV → Prop} {p : Prop} (hp : ∀ W F w, Rep W F hs w → p) (h : p → Spec P f hs args Post) : Spec P f hs args Post :=
  fun W F w hr => h (hp W F w hr) W F w hr

theorem Spec.weaken {P : Program} {f : FuncId} {hs : List Ent} {args : List SV} {Post Post' : List Ent → SV → Prop} (h : Spec P f hs args Post) (hw : ∀ h' r, Post h' r → ∃ h'' r', (∀ W F w, Rep W F h' w → Rep W F h'' w) ∧ den r = den r' ∧ Post' h'' r') : Spec P f hs args Post' := by
  intro W F w hr
  refine Calls.mono (h W F w hr) ?_
  rintro e w' ⟨h', r, hp, rfl, hr'⟩
  obtain ⟨h'', r', h1, h2, h3⟩ := hw h' r hp
  exact ⟨h'', r', h3, by rw [h2], h1 _ _ _ hr'⟩

def cloneC (T : TypeId) (sz bytes : Nat) : Ctr := fun args hs N => match args with
  | [.vec l ao n cap] => match nth hs l with
    | some ⟨.sl ao' cap', .vecL T' sz' enc xs d⟩ => (ao' = ao ∧ cap' = cap ∧ n = xs.length ∧ T' = T ∧ sz' = sz ∧ xs.length * bytes ≤ 140737488355328 ∧ xs.length ≤ 9223372036854775807) ∧
        ∀ ao2 cap2, xs.length ≤ cap2 → N (snoc hs ⟨.sl ao2 cap2, .vecL T' sz' enc xs d⟩) (.vec (lenN hs) ao2 xs.length cap2)
    | _ => False
  | _ => False

theorem clone_ok {P : Program} {f : FuncId} {T : TypeId} {sz bytes : Nat}
    (h1 : ∀ (α : Type) (enc : α → List SV) (xs : List α) (d : α) (ao : Option Addr) (cap : Nat), xs.length * bytes ≤ 140737488355328 → xs.length ≤ 9223372036854775807 → Spec P f [⟨.sl ao cap, .vecL T sz enc xs d⟩] [.vec 0 ao xs.length cap] fun h' r => (ao.isNone = true ∧ h' = [⟨.sl ao cap, .vecL T sz enc xs d⟩] ∧ r = .raw (.slice none 0 0)) ∨ ∃ ao2 cap2, xs.length ≤ cap2 ∧ h' = [⟨.sl ao cap, .vecL T sz enc xs d⟩, ⟨.sl ao2 cap2, .vecL T sz enc xs d⟩] ∧ r = .vec 1 ao2 xs.length cap2) :
    CtrOk P f (cloneC T sz bytes) := by
  intro args hs N h
  unfold cloneC at h
  split at h
  · rename_i l ao n cap
    split at h
    · rename_i ao' cap' α T' sz' enc xs d hl
      obtain ⟨⟨rfl, rfl, rfl, rfl, rfl, g1, g2⟩, h⟩ := h
      have hset : setN hs l ⟨.sl ao' cap', .vecL T' sz' enc xs d⟩ = hs := by
        rw [nth_eq] at hl
        rw [setN_eq]
        exact List.ext_getElem? fun i => by
          rw [List.getElem?_set]
          split
          · rename_i e; subst e
            split
            · exact hl.symm
            · rename_i hlt
              have := (List.getElem?_eq_some_iff.1 hl).1
              exact absurd this hlt
          · rfl
      refine Spec.know (p := 0 < xs.length → ao'.isNone = false) (fun W F w hr h0 => by rw [(hr.vec hl).2.2.1 h0]; rfl) fun hn => ?_
      refine Spec.at [l] (by simp [distinct]) (hp := [⟨.sl ao' cap', .vecL T' sz' enc xs d⟩]) (by simp [pickE, hl]) ((h1 α enc xs d ao' cap' g1 g2).weaken (Post' := fun h' r => ∃ ao2 cap2, xs.length ≤ cap2 ∧ h' = [⟨.sl ao' cap', .vecL T' sz' enc xs d⟩, ⟨.sl ao2 cap2, .vecL T' sz' enc xs d⟩] ∧ r = .vec 1 ao2 xs.length cap2) ?_) rfl ?_
      · rintro h' r (⟨h2, rfl, rfl⟩ | ⟨ao2, cap2, h2, rfl, rfl⟩)
        · have hx : xs = [] := by
            cases xs with
            | nil => rfl
            | cons x xs => exact absurd (hn (by simp)) (by simp [h2])
          subst hx
          refine ⟨[⟨.sl ao' cap', .vecL T' sz' enc [] d⟩, ⟨.sl none 0, .vecL T' sz' enc [] d⟩], .vec 1 none 0 0, fun W F w hr => ?_, rfl, none, 0, Nat.le_refl _, rfl, rfl⟩
          have he := (hr.vec (l := 0) rfl).1
          exact Rep.nilvec T' (sz := sz') (enc := enc) d he hr
        · exact ⟨_, _, fun W F w hr => hr, rfl, ao2, cap2, h2, rfl, rfl⟩
      · rintro h' r ⟨ao2, cap2, h2, rfl, rfl⟩
        refine ⟨Nat.le_succ _, .vec (lenN hs) ao2 xs.length cap2, rfl, ?_⟩
        have := h ao2 cap2 h2
        have e : putBack [l] hs [⟨.sl ao' cap', .vecL T' sz' enc xs d⟩, ⟨.sl ao2 cap2, .vecL T' sz' enc xs d⟩] = snoc hs ⟨.sl ao2 cap2, .vecL T' sz' enc xs d⟩ := by
          simp only [putBack, hset, appE_eq, snoc_eq]
        rw [e]; exact this
    · exact h.elim
  · exact h.elim
end Go.Proofs.Ytkcmgcoppecfpaa

/- The plain law of a binary heap on lists: up and down, as1 container/heap does them. -/
namespace Go.Proofs.Ytkcmgcoppecfpaa
universe u

section
variable {α : Type} {lt : α → α → Bool} {d : α}

structure Ordered (lt : α → α → Bool) : Prop where
  asym : ∀ a b, lt a b = true → lt b a = false
  trans : ∀ a b c, lt b a = false → lt c b = false → lt c a = false

def swapL (d : α) (xs : List α) (i j : Nat) : List α := (xs.set i (xs.getD j d)).set j (xs.getD i d)

theorem length_swapL (xs : List α) (i j : Nat) : (swapL d xs i j).length = xs.length := by simp [swapL]

theorem getD_set (xs : List α) (i k : Nat) (v : α) (hi : i < xs.length) : (xs.set i v).getD k d = if k = i then v else xs.getD k d := by
  by_cases h : k = i
  · subst h; simp [List.getD, hi]
  · rw [if_neg h]
    simp [List.getD, List.getElem?_set_ne (fun e => h e.symm)]

theorem getD_swapL (xs : List α) (i j k : Nat) (hi : i < xs.length) (hj : j < xs.length) : (swapL d xs i j).getD k d = if k = j then xs.getD i d else if k = i then xs.getD j d else xs.getD k d := by
  unfold swapL
  rw [getD_set _ _ _ _ (by simpa using hj)]
  split
  · rfl
  · rw [getD_set _ _ _ _ hi]

theorem perm_swapL (xs : List α) (i j : Nat) (hi : i < xs.length) (hj : j < xs.length) : (swapL d xs i j).Perm xs := by
  have h := Array.swap_perm (xs := xs.toArray) (i := i) (j := j) (by simpa using hi) (by simpa using hj)
  have h2 := Array.perm_iff_toList_perm.1 h
  have e : (xs.toArray.swap i j (by simpa using hi) (by simpa using hj)).toList = swapL d xs i j := by
    apply List.ext_getElem?
    intro k
    simp only [Array.swap_def, Array.toList_set, swapL, List.getD, List.getElem_toArray]
    simp [hi, hj]
  rw [e] at h2
  simpa using h2

def heapN (lt : α → α → Bool) (d : α) (xs : List α) (n : Nat) : Prop := ∀ k, 0 < k → k < n → lt (xs.getD k d) (xs.getD ((k - 1) / 2) d) = false

def upL (lt : α → α → Bool) (d : α) : Nat → List α → Nat → List α
  | 0, xs, _ => xs
  | n + 1, xs, j => if (j - 1) / 2 = j then xs else if lt (xs.getD j d) (xs.getD ((j - 1) / 2) d) = true then upL lt d n (swapL d xs ((j - 1) / 2) j) ((j - 1) / 2) else xs

def kidL (lt : α → α → Bool) (d : α) (xs : List α) (i n : Nat) : Nat := if 2 * i + 2 < n ∧ lt (xs.getD (2 * i + 2) d) (xs.getD (2 * i + 1) d) = true then 2 * i + 2 else 2 * i + 1

def downL (lt : α → α → Bool) (d : α) : Nat → List α → Nat → Nat → List α
  | 0, xs, _, _ => xs
  | m + 1, xs, i, n => if n ≤ 2 * i + 1 then xs else if lt (xs.getD (kidL lt d xs i n) d) (xs.getD i d) = true then downL lt d m (swapL d xs i (kidL lt d xs i n)) (kidL lt d xs i n) n else xs

theorem upL_stop {m : Nat} {xs : List α} {j : Nat} (h : (j - 1) / 2 = j ∨ lt (xs.getD j d) (xs.getD ((j - 1) / 2) d) = false) : upL lt d m xs j = xs := by
  cases m with
  | zero => rfl
  | succ m =>
    unfold upL
    split
    · rfl
    · rename_i hne
      rw [if_neg (by rw [h.resolve_left hne]; decide)]

theorem upL_go {m : Nat} {xs : List α} {j : Nat} (h1 : (j - 1) / 2 ≠ j) (h2 : lt (xs.getD j d) (xs.getD ((j - 1) / 2) d) = true) (hm : j ≤ m) : upL lt d m xs j = upL lt d (m - 1) (swapL d xs ((j - 1) / 2) j) ((j - 1) / 2) := by
  cases m with
  | zero => omega
  | succ m =>
    show (if _ then _ else _) = _
    rw [if_neg h1, if_pos h2]; rfl

theorem downL_stop {m : Nat} {xs : List α} {i n : Nat} (h : n ≤ 2 * i + 1 ∨ lt (xs.getD (kidL lt d xs i n) d) (xs.getD i d) = false) : downL lt d m xs i n = xs := by
  cases m with
  | zero => rfl
  | succ m =>
    unfold downL
    split
    · rfl
    · rename_i hne
      rw [if_neg (by rw [h.resolve_left hne]; decide)]

theorem downL_go {m : Nat} {xs : List α} {i n : Nat} (h1 : ¬ n ≤ 2 * i + 1) (h2 : lt (xs.getD (kidL lt d xs i n) d) (xs.getD i d) = true) (hm : n ≤ m + i + 1) : downL lt d m xs i n = downL lt d (m - 1) (swapL d xs i (kidL lt d xs i n)) (kidL lt d xs i n) n := by
  cases m with
  | zero => omega
  | succ m =>
    show (if _ then _ else _) = _
    rw [if_neg h1, if_pos h2]; rfl

theorem kidL_two {xs : List α} {i n : Nat} (h1 : 2 * i + 2 < n) (h2 : lt (xs.getD (2 * i + 2) d) (xs.getD (2 * i + 1) d) = true) : kidL lt d xs i n = 2 * i + 2 := by unfold kidL; rw [if_pos ⟨h1, h2⟩]
theorem kidL_one {xs : List α} {i n : Nat} (h : 2 * i + 2 < n → lt (xs.getD (2 * i + 2) d) (xs.getD (2 * i + 1) d) = false) : kidL lt d xs i n = 2 * i + 1 := by
  unfold kidL; rw [if_neg]; rintro ⟨h1, h2⟩; rw [h h1] at h2; cases h2

theorem length_upL : ∀ (n : Nat) (xs : List α) (j : Nat), (upL lt d n xs j).length = xs.length
  | 0, _, _ => rfl
  | n + 1, xs, j => by
    unfold upL
    split
    · rfl
    split
    · rw [length_upL n, length_swapL]
    · rfl

theorem length_downL : ∀ (m : Nat) (xs : List α) (i n : Nat), (downL lt d m xs i n).length = xs.length
  | 0, _, _, _ => rfl
  | m + 1, xs, i, n => by
    unfold downL
    split
    · rfl
    split
    · rw [length_downL m, length_swapL]
    · rfl

theorem perm_upL : ∀ (n : Nat) (xs : List α) (j : Nat), j < xs.length → (upL lt d n xs j).Perm xs
  | 0, _, _, _ => List.Perm.refl _
  | n + 1, xs, j, hj => by
    unfold upL
    split
    · exact List.Perm.refl _
    split
    · exact (perm_upL n _ _ (by rw [length_swapL]; omega)).trans (perm_swapL xs _ _ (by omega) hj)
    · exact List.Perm.refl _

theorem kidL_lt {xs : List α} {i n : Nat} (h : ¬ n ≤ 2 * i + 1) : kidL lt d xs i n < n ∧ (kidL lt d xs i n = 2 * i + 1 ∨ kidL lt d xs i n = 2 * i + 2) := by
  unfold kidL
  split <;> omega

theorem perm_downL : ∀ (m : Nat) (xs : List α) (i n : Nat), i < xs.length → n ≤ xs.length → (downL lt d m xs i n).Perm xs
  | 0, _, _, _, _, _ => List.Perm.refl _
  | m + 1, xs, i, n, hi, hn => by
    unfold downL
    split
    · exact List.Perm.refl _
    · rename_i h
      have hk := kidL_lt (lt := lt) (d := d) (xs := xs) h
      split
      · exact (perm_downL m _ _ _ (by rw [length_swapL]; omega) (by rw [length_swapL]; exact hn)).trans (perm_swapL xs _ _ hi (by omega))
      · exact List.Perm.refl _

theorem tail_downL : ∀ (m : Nat) (xs : List α) (i n : Nat), i < n → n ≤ xs.length → ∀ k, n ≤ k → (downL lt d m xs i n).getD k d = xs.getD k d
  | 0, _, _, _, _, _, _, _ => rfl
  | m + 1, xs, i, n, hi, hn, k, hk => by
    unfold downL
    split
    · rfl
    · rename_i h
      have hj := kidL_lt (lt := lt) (d := d) (xs := xs) h
      split
      · rw [tail_downL m _ _ _ hj.1 (by rw [length_swapL]; exact hn) k hk, getD_swapL _ _ _ _ (by omega) (by omega), if_neg (by omega), if_neg (by omega)]
      · rfl

theorem heap_upL (ho : Ordered lt) : ∀ (m : Nat) (xs : List α) (j : Nat), j < xs.length → j ≤ m → (∀ k, 0 < k → k < xs.length → k ≠ j → lt (xs.getD k d) (xs.getD ((k - 1) / 2) d) = false) →
    (0 < j → ∀ k, 0 < k → k < xs.length → (k - 1) / 2 = j → lt (xs.getD k d) (xs.getD ((j - 1) / 2) d) = false) → heapN lt d (upL lt d m xs j) xs.length
  | 0, xs, j, hj, hm, h1, h2 => by
    have : j = 0 := by omega
    subst this
    intro k k0 kn
    exact h1 k k0 kn (by omega)
  | m + 1, xs, j, hj, hm, h1, h2 => by
    unfold upL
    split
    · rename_i e
      have : j = 0 := by omega
      subst this
      intro k k0 kn
      exact h1 k k0 kn (by omega)
    · rename_i hne
      have j0 : 0 < j := by omega
      split
      · rename_i hlt
        have hi : (j - 1) / 2 < xs.length := by omega
        have hh := heap_upL ho m (swapL d xs ((j - 1) / 2) j) ((j - 1) / 2) (by rw [length_swapL]; exact hi) (by omega)
        rw [length_swapL] at hh
        refine hh ?_ ?_
        · intro k k0 kn hk
          rw [getD_swapL _ _ _ _ hi hj, getD_swapL _ _ _ _ hi hj]
          by_cases e1 : k = j
          · subst e1
            rw [if_pos rfl, if_neg (by omega), if_pos rfl]
            exact ho.asym _ _ hlt
          · rw [if_neg e1, if_neg hk]
            by_cases e2 : (k - 1) / 2 = j
            · rw [if_pos e2]
              exact h2 j0 k k0 kn e2
            · rw [if_neg e2]
              by_cases e3 : (k - 1) / 2 = (j - 1) / 2
              · rw [if_pos e3]
                have a1 := h1 k k0 kn e1
                rw [e3] at a1
                exact ho.trans _ _ _ (ho.asym _ _ hlt) a1
              · rw [if_neg e3]
                exact h1 k k0 kn e1
        · intro i0 k k0 kn hk
          rw [getD_swapL _ _ _ _ hi hj, getD_swapL _ _ _ _ hi hj]
          have hg : lt (xs.getD ((j - 1) / 2) d) (xs.getD (((j - 1) / 2 - 1) / 2) d) = false := h1 _ i0 hi (by omega)
          rw [if_neg (by omega : ¬ ((j - 1) / 2 - 1) / 2 = j), if_neg (by omega : ¬ ((j - 1) / 2 - 1) / 2 = (j - 1) / 2)]
          by_cases e1 : k = j
          · rw [if_pos e1]; exact hg
          · rw [if_neg e1, if_neg (by omega)]
            have a1 := h1 k k0 kn e1
            rw [hk] at a1
            exact ho.trans _ _ _ hg a1
      · rename_i hlt
        intro k k0 kn
        by_cases e1 : k = j
        · subst e1; simpa using hlt
        · exact h1 k k0 kn e1

theorem heap_downL (ho : Ordered lt) : ∀ (m : Nat) (xs : List α) (i n : Nat), i < n → n ≤ xs.length → n ≤ m + i + 1 → (∀ k, 0 < k → k < n → (k - 1) / 2 ≠ i → lt (xs.getD k d) (xs.getD ((k - 1) / 2) d) = false) →
    (0 < i → ∀ k, 0 < k → k < n → (k - 1) / 2 = i → lt (xs.getD k d) (xs.getD ((i - 1) / 2) d) = false) → heapN lt d (downL lt d m xs i n) n
  | 0, xs, i, n, hi, hn, hm, h1, h2 => by
    intro k k0 kn
    exact h1 k k0 kn (by omega)
  | m + 1, xs, i, n, hi, hn, hm, h1, h2 => by
    unfold downL
    split
    · intro k k0 kn
      exact h1 k k0 kn (by omega)
    · rename_i h
      have hj := kidL_lt (lt := lt) (d := d) (xs := xs) h
      -- the child goes ahead of its brother
      have hb : ∀ k, 0 < k → k < n → (k - 1) / 2 = i → lt (xs.getD k d) (xs.getD (kidL lt d xs i n) d) = false := by
        intro k k0 kn hk
        have hself : ∀ a, lt a a = false := fun a => by
          cases hq : lt a a with
          | false => rfl
          | true => have := ho.asym _ _ hq; rw [hq] at this; cases this
        have : k = 2 * i + 1 ∨ k = 2 * i + 2 := by omega
        unfold kidL
        split
        · rename_i hc
          rcases this with rfl | rfl
          · exact ho.asym _ _ hc.2
          · exact hself _
        · rename_i hc
          rcases this with rfl | rfl
          · exact hself _
          · cases hq : lt (xs.getD (2 * i + 2) d) (xs.getD (2 * i + 1) d) with
            | false => rfl
            | true => exact absurd ⟨kn, hq⟩ hc
      split
      · rename_i hlt
        have hk : kidL lt d xs i n < xs.length := by omega
        have hi' : i < xs.length := by omega
        have hpar : (kidL lt d xs i n - 1) / 2 = i := by omega
        refine heap_downL ho m (swapL d xs i (kidL lt d xs i n)) (kidL lt d xs i n) n hj.1 (by rw [length_swapL]; exact hn) (by omega) ?_ ?_
        · intro k k0 kn hne
          rw [getD_swapL _ _ _ _ hi' hk, getD_swapL _ _ _ _ hi' hk]
          rw [if_neg hne]
          by_cases e1 : k = kidL lt d xs i n
          · rw [if_pos e1, e1, hpar, if_pos rfl]
            exact ho.asym _ _ hlt
          · rw [if_neg e1]
            by_cases e2 : k = i
            · rw [if_pos e2, e2, if_neg (by omega)]
              have i0 : 0 < i := by omega
              exact h2 i0 _ (by omega) hj.1 hpar
            · rw [if_neg e2]
              by_cases e3 : (k - 1) / 2 = i
              · rw [if_pos e3]
                exact hb k k0 kn e3
              · rw [if_neg e3]
                exact h1 k k0 kn e3
        · intro _ k k0 kn hk2
          rw [getD_swapL _ _ _ _ hi' hk, getD_swapL _ _ _ _ hi' hk, hpar, if_neg (by omega), if_neg (by omega : ¬ k = i), if_neg (by omega : ¬ i = kidL lt d xs i n), if_pos rfl]
          have := h1 k k0 kn (by omega)
          rw [hk2] at this
          exact this
      · rename_i hlt
        have hlt' : lt (xs.getD (kidL lt d xs i n) d) (xs.getD i d) = false := by simpa using hlt
        intro k k0 kn
        by_cases e1 : (k - 1) / 2 = i
        · rw [e1]
          exact ho.trans _ _ _ hlt' (hb k k0 kn e1)
        · exact h1 k k0 kn e1

theorem heap_top (ho : Ordered lt) {xs : List α} {n : Nat} (h : heapN lt d xs n) : ∀ k, k < n → lt (xs.getD k d) (xs.getD 0 d) = false := by
  intro k
  induction k using Nat.strongRecOn with
  | ind k ih =>
    intro kn
    by_cases k0 : k = 0
    · subst k0
      cases hq : lt (xs.getD 0 d) (xs.getD 0 d) with
      | false => rfl
      | true => have := ho.asym _ _ hq; rw [hq] at this; cases this
    · exact ho.trans _ _ _ (ih ((k - 1) / 2) (by omega) (by omega)) (h k (by omega) kn)

def pushL (lt : α → α → Bool) (d : α) (xs : List α) (v : α) : List α := upL lt d xs.length (xs ++ [v]) xs.length

theorem length_pushL (xs : List α) (v : α) : (pushL lt d xs v).length = xs.length + 1 := by simp [pushL, length_upL]
theorem perm_pushL (xs : List α) (v : α) : (pushL lt d xs v).Perm (v :: xs) :=
  (perm_upL _ _ _ (by simp)).trans (List.perm_append_comm (l₁ := xs) (l₂ := [v]))

theorem heap_pushL (ho : Ordered lt) {xs : List α} (v : α) (h : heapN lt d xs xs.length) : heapN lt d (pushL lt d xs v) (pushL lt d xs v).length := by
  rw [length_pushL]
  have hh := heap_upL (d := d) ho xs.length (xs ++ [v]) xs.length (by simp) (Nat.le_refl _)
  simp only [List.length_append, List.length_cons, List.length_nil] at hh
  refine hh ?_ ?_
  · intro k k0 kn hk
    have e1 : ∀ j, j < xs.length → (xs ++ [v]).getD j d = xs.getD j d := fun j hj => by simp [List.getD, List.getElem?_append_left hj]
    rw [e1 k (by omega), e1 _ (by omega)]
    exact h k k0 (by omega)
  · intro _ k k0 kn hk; omega

def popL (lt : α → α → Bool) (d : α) (xs : List α) : List α := (downL lt d xs.length (swapL d xs 0 (xs.length - 1)) 0 (xs.length - 1)).take (xs.length - 1)

theorem length_popL (xs : List α) : (popL lt d xs).length = xs.length - 1 := by
  simp [popL, length_downL, length_swapL]

theorem last_downL {xs : List α} (h : 0 < xs.length) : (downL lt d xs.length (swapL d xs 0 (xs.length - 1)) 0 (xs.length - 1)).getD (xs.length - 1) d = xs.getD 0 d := by
  by_cases h1 : xs.length - 1 = 0
  · have e : xs.length = 1 := by omega
    rw [e]
    simp only [downL, Nat.sub_self, Nat.mul_zero, Nat.zero_add]
    rw [if_pos (by omega), getD_swapL _ _ _ _ h (by omega)]
    split <;> rfl
  · rw [tail_downL _ _ _ _ (by omega) (by rw [length_swapL]; omega) _ (Nat.le_refl _), getD_swapL _ _ _ _ h (by omega), if_pos rfl]

theorem perm_popL {xs : List α} (h : 0 < xs.length) : (xs.getD 0 d :: popL lt d xs).Perm xs := by
  have hp : (downL lt d xs.length (swapL d xs 0 (xs.length - 1)) 0 (xs.length - 1)).Perm xs :=
    (perm_downL _ _ _ _ (by rw [length_swapL]; exact h) (by rw [length_swapL]; omega)).trans (perm_swapL _ _ _ h (by omega))
  have hl := last_downL (lt := lt) (d := d) h
  have hlen : (downL lt d xs.length (swapL d xs 0 (xs.length - 1)) 0 (xs.length - 1)).length = xs.length := by rw [length_downL, length_swapL]
  have hcut := List.take_append_drop (xs.length - 1) (downL lt d xs.length (swapL d xs 0 (xs.length - 1)) 0 (xs.length - 1))
  have hd : (downL lt d xs.length (swapL d xs 0 (xs.length - 1)) 0 (xs.length - 1)).drop (xs.length - 1) = [xs.getD 0 d] := by
    rw [← hl]
    generalize (downL lt d xs.length (swapL d xs 0 (xs.length - 1)) 0 (xs.length - 1)) = ys at hlen ⊢
    have h2 : xs.length - 1 < ys.length := by omega
    rw [List.drop_eq_getElem_cons h2, List.drop_eq_nil_of_le (by omega)]
    simp [List.getD, h2]
  rw [hd] at hcut
  have : (popL lt d xs ++ [xs.getD 0 d]).Perm xs := by rw [popL, hcut]; exact hp
  exact (List.perm_append_comm (l₁ := [xs.getD 0 d]) (l₂ := popL lt d xs)).trans this

theorem heap_popL (ho : Ordered lt) {xs : List α} (h : heapN lt d xs xs.length) : heapN lt d (popL lt d xs) (popL lt d xs).length := by
  rw [length_popL]
  by_cases h1 : xs.length ≤ 1
  · intro k k0 kn; omega
  · have hh := heap_downL (d := d) ho xs.length (swapL d xs 0 (xs.length - 1)) 0 (xs.length - 1) (by omega) (by rw [length_swapL]; omega) (by omega) ?_ (fun h => absurd h (by decide))
    · intro k k0 kn
      have e1 : ∀ j, j < xs.length - 1 → (popL lt d xs).getD j d = (downL lt d xs.length (swapL d xs 0 (xs.length - 1)) 0 (xs.length - 1)).getD j d := fun j hj => by
        unfold popL
        simp [List.getD, List.getElem?_take, hj]
      rw [e1 k kn, e1 _ (by omega)]
      exact hh k k0 kn
    · intro k k0 kn hk
      rw [getD_swapL _ _ _ _ (by omega) (by omega), getD_swapL _ _ _ _ (by omega) (by omega), if_neg (by omega), if_neg (by omega), if_neg (by omega), if_neg hk]
      exact h k k0 (by omega)

theorem pop_first (ho : Ordered lt) {xs : List α} (h : heapN lt d xs xs.length) (h0 : 0 < xs.length) : ∀ y ∈ popL lt d xs, lt y (xs.getD 0 d) = false := by
  intro y hy
  have hm : y ∈ xs := (perm_popL (lt := lt) (d := d) h0).mem_iff.1 (List.mem_cons_of_mem _ hy)
  obtain ⟨k, hk, rfl⟩ := List.mem_iff_getElem.1 hm
  have := heap_top ho h k hk
  simpa [List.getD, hk] using this

section
variable {β : Type} {lt' : β → β → Bool} {g : α → β}

theorem getD_map' (xs : List α) (k : Nat) : (xs.map g).getD k (g d) = g (xs.getD k d) := by
  simp [List.getD, List.getElem?_map]
theorem swapL_map (xs : List α) (i j : Nat) : swapL (g d) (xs.map g) i j = (swapL d xs i j).map g := by
  unfold swapL
  rw [getD_map', getD_map', List.map_set, List.map_set]
theorem upL_map (hg : ∀ a b, lt' (g a) (g b) = lt a b) : ∀ (n : Nat) (xs : List α) (j : Nat), upL lt' (g d) n (xs.map g) j = (upL lt d n xs j).map g
  | 0, _, _ => rfl
  | n + 1, xs, j => by
    unfold upL
    rw [getD_map', getD_map', hg, swapL_map, upL_map hg n]
    split
    · rfl
    · split <;> rfl
theorem kidL_map (hg : ∀ a b, lt' (g a) (g b) = lt a b) (xs : List α) (i n : Nat) : kidL lt' (g d) (xs.map g) i n = kidL lt d xs i n := by
  unfold kidL
  rw [getD_map', getD_map', hg]
theorem downL_map (hg : ∀ a b, lt' (g a) (g b) = lt a b) : ∀ (m : Nat) (xs : List α) (i n : Nat), downL lt' (g d) m (xs.map g) i n = (downL lt d m xs i n).map g
  | 0, _, _, _ => rfl
  | m + 1, xs, i, n => by
    unfold downL
    rw [kidL_map hg, getD_map', getD_map', hg, swapL_map, downL_map hg m]
    split
    · rfl
    · split <;> rfl
theorem pushL_map (hg : ∀ a b, lt' (g a) (g b) = lt a b) (xs : List α) (v : α) : pushL lt' (g d) (xs.map g) (g v) = (pushL lt d xs v).map g := by
  unfold pushL
  rw [← upL_map hg]
  simp
theorem popL_map (hg : ∀ a b, lt' (g a) (g b) = lt a b) (xs : List α) : popL lt' (g d) (xs.map g) = (popL lt d xs).map g := by
  unfold popL
  rw [List.length_map, swapL_map, downL_map hg, List.map_take]
end
end
end Go.Proofs.Ytkcmgcoppecfpaa

