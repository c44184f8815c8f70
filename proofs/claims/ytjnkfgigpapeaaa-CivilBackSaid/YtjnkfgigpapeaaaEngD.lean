/- The symbolic executor: new slices and maps; one operation; the run. -/
import Derived.Test.YtjnkfgigpapeaaaEngC
namespace Go.Proofs.Ytjnkfgigpapeaaa
open Go Go.RowKit
set_option linter.unusedVariables false
set_option linter.unusedSimpArgs false
set_option linter.unnecessarySimpa false
universe u
set_option linter.unusedVariables false

def zerosN (n : Nat) (cs : List SV) : List SV :=
  match n with
  | 0 => []
  | n + 1 => cs ++ zerosN n cs

def evenPlaces (k : Nat) : Nat → Nat → List (Nat × Nat)
  | 0, _ => []
  | n + 1, i => (i * k, k) :: evenPlaces k n (i + 1)

theorem zeros_get (cs : List SV) (h : 0 < cs.length) : ∀ (n j : Nat), j < n * cs.length → (denL (zerosN n cs))[j]? = (denL cs)[j % cs.length]?
  | 0, j, hj => by omega
  | n + 1, j, hj => by
    rw [zerosN]
    have e : ∀ a b : List SV, denL (a ++ b) = denL a ++ denL b := fun a b => by simp [denL_eq]
    rw [e]
    by_cases hlt : j < cs.length
    · rw [List.getElem?_append_left (by rw [length_denL]; exact hlt), Nat.mod_eq_of_lt hlt]
    · rw [List.getElem?_append_right (by rw [length_denL]; omega), length_denL]
      rw [zeros_get cs h n (j - cs.length) (by rw [Nat.succ_mul] at hj; omega)]
      rw [← Nat.mod_eq_sub_mod (by omega)]

theorem length_zerosN (n : Nat) (cs : List SV) : (zerosN n cs).length = n * cs.length := by
  induction n with
  | zero => simp [zerosN]
  | succ n ih => rw [zerosN, List.length_append, ih, Nat.succ_mul]; omega

theorem zeros_eq (n : Nat) (cs : List SV) (h : 0 < cs.length) : (Array.range (n * cs.length)).map (fun j => (denL cs).toArray[j % (denL cs).toArray.size]!) = (denL (zerosN n cs)).toArray := by
  apply Array.ext_getElem?
  intro j
  by_cases hj : j < n * cs.length
  · have h1 := zeros_get cs h n j hj
    have h2 : j % cs.length < (denL cs).length := by rw [length_denL]; exact Nat.mod_lt _ h
    simp only [Array.getElem?_map, Array.getElem?_range, hj, List.size_toArray, length_denL, List.getElem?_toArray, h1]
    simp [h2]
  · have h2 : (denL (zerosN n cs)).length ≤ j := by rw [length_denL, length_zerosN]; omega
    simp [hj, h2]

theorem nth_evenPlaces (k : Nat) : ∀ (n i j : Nat), j < n → nth (evenPlaces k n i) j = some ((i + j) * k, k)
  | 0, _, _, h => by omega
  | n + 1, i, 0, _ => rfl
  | n + 1, i, j + 1, h => by
    rw [evenPlaces, nth, nth_evenPlaces k n (i + 1) j (by omega)]
    congr 3; omega

/-- A new slice, written out. -/
def xbuildSlice (P : Program) (st : Sy) (dst : Option Tmp) (t : TypeId) (n : Nat) (parts : List (Nat × Operand)) (N : Sy → Prop) (S : Prop) : Prop :=
  match tslice P t with
  | some (e, k) => match tzero P e with
    | some cs => match fillV (evenPlaces k n 0) (zerosN n cs) (evalParts st parts) with
      | some r => (allParts (evalParts st parts) = true ∧ lenN cs = k ∧ 0 < n * k ∧ n * k ≤ 16777216) ∧
          ∀ b, N ({ st with heap := snoc st.heap ⟨.blk b, .cells r e⟩ }.put dst (.vec (lenN st.heap) (some ⟨b, 0, none⟩) n n))
      | none => S
    | none => S
  | none => S

section
variable {P : Program} {W w : World} {F : List Ch} {st : Sy} {o : Oper} {Q : Exit → Act → World → Prop} {K : Act → World → Prop} {N : Sy → Prop}

theorem fillV_nth (pl : List (Nat × Nat)) : ∀ (parts : List (Nat × SV)) (cs r : List SV), fillV pl cs parts = some r → ∀ p ∈ parts, ∃ x, nth pl p.1 = some x
  | [], _, _, _, p, hp => by cases hp
  | (i, v) :: rest, cs, r, h, p, hp => by
    simp only [fillV] at h
    split at h
    · rename_i off k hi
      split at h
      · rcases List.mem_cons.1 hp with rfl | hp
        · exact ⟨_, hi⟩
        · exact fillV_nth pl rest _ r h p hp
      · cases h
    · cases h

theorem fill_place_congr (p q : Nat → Option (Nat × Nat)) : ∀ (parts : List (Nat × Value)) (cs : Array Value), (∀ x ∈ parts, p x.1 = q x.1) → Instr.fill p cs parts = Instr.fill q cs parts
  | [], cs, _ => rfl
  | (i, v) :: rest, cs, h => by
    simp only [Instr.fill]
    rw [h (i, v) List.mem_cons_self]
    cases q i with
    | none => rfl
    | some x =>
      obtain ⟨off, size⟩ := x
      simp only
      split
      · rfl
      · exact fill_place_congr p q rest _ (fun x hx => h x (List.mem_cons_of_mem _ hx))

theorem nth_evenPlaces_some (k n : Nat) : ∀ (i j : Nat) (x : Nat × Nat), nth (evenPlaces k n i) j = some x → j < n := by
  induction n with
  | zero => intro i j x h; simp [evenPlaces, nth] at h
  | succ n ih =>
    intro i j x h
    cases j with
    | zero => omega
    | succ j =>
      rw [evenPlaces, nth] at h
      have := ih _ _ _ h; omega

theorem sound_xbuildSlice (S : Prop) (t : TypeId) (n : Nat) (parts : Array (Nat × Operand)) (ho : o.op = .buildSlice t n parts) (hN : ∀ st', N st' → ∀ w', Rep W F st'.heap w' → K (actOf st') w') (hr : Rep W F st.heap w)
    (hx : xbuildSlice P st o.dst t n parts.toList N S) (hS : S → o.wp P (actOf st) w K Q) : o.wp P (actOf st) w K Q := by
  unfold xbuildSlice at hx
  split at hx
  · rename_i e k e1
    split at hx
    · rename_i cs e2
      split at hx
      · rename_i r e3
        obtain ⟨⟨g1, g2, g3, g4⟩, hx⟩ := hx
        rw [lenN_eq] at g2
        have hk : 0 < k := Nat.pos_of_mul_pos_left g3
        obtain ⟨z, hz1, hzc⟩ := Option.map_eq_some_iff.1 e2
        obtain ⟨i, hi, hz2⟩ := Option.bind_eq_some_iff.1 hz1
        have hd : (denL cs).toArray = z.cells := by
          rw [← hzc]
          apply Array.ext'
          simp only [denL_eq, List.map_map]
          rw [show den ∘ ofValue = id from funext den_ofValue, List.map_id]
        have hsl : P.underlying t = some (.slice e) ∧ i.size = k := by
          unfold tslice at e1
          split at e1
          · rename_i e' hu
            obtain ⟨i', hi', he⟩ := Option.map_eq_some_iff.1 e1
            cases he
            rw [hi'] at hi; cases hi
            exact ⟨hu, rfl⟩
          · cases e1
        obtain ⟨hu, hsz⟩ := hsl
        have hze := zeros_eq n cs (by omega)
        rw [g2, hd] at hze
        have hf := fill_of_fillV (nth (evenPlaces k n 0)) (evenPlaces k n 0) (fun _ => rfl) (evalParts st parts.toList) _ r (allParts_mem _ g1) (fun p hp x hx => by
          have hlt := nth_evenPlaces_some k n 0 _ _ hx
          rw [nth_evenPlaces k n 0 _ hlt] at hx
          cases hx
          rw [length_zerosN, g2]
          simp only [Nat.zero_add]
          have : (p.1 + 1) * k ≤ n * k := Nat.mul_le_mul_right _ hlt
          rw [Nat.succ_mul] at this; exact this) e3
        rw [evalParts_eq] at hf
        have hf' : Instr.fill (fun i => some (i * k, k)) (denL (zerosN n cs)).toArray (parts.toList.map fun p => (p.1, (actOf st).eval p.2)) = some (denL r).toArray := by
          rw [← hf]
          apply fill_place_congr
          intro x hx
          rw [← evalParts_eq] at hx
          obtain ⟨p, hp, rfl⟩ := List.mem_map.1 hx
          obtain ⟨y, hy⟩ := fillV_nth _ _ _ _ e3 p hp
          have hlt := nth_evenPlaces_some k n 0 _ _ hy
          rw [nth_evenPlaces k n 0 _ hlt]; simp
        have hn := hx w.heap.size
        have h1 := hN _ hn (w.alloc (.cells (denL r).toArray e (0, 0))) (by
          rw [heap_put]
          exact hr.new (e := ⟨.blk w.heap.size, .cells r e⟩) (c := [(w.heap.size, .cells (denL r).toArray e (0, 0))]) rfl (fun L hL => hL.alloc _))
        rw [actOf_put] at h1
        unfold Oper.wp
        have hne : ¬ (n * k = 0) := by omega
        have h24 : ¬ (16777216 < n * k) := by omega
        have hrun : (execOp (actOf st).eval o).run P w = .ok (.value (.slice (some ⟨w.heap.size, 0, none⟩) n n)) (w.alloc (.cells (denL r).toArray e (0, 0))) := by
          simp only [execOp, ho, Instr.buildSlice, Sem.run_bind, underlying, run_program, Result.andThen_ok, hu, Sem.run_pure, sizeOf, typeInfo, hi, hsz, zeroValue]
          rw [if_neg (by omega)]
          simp [hne, hi, hz2, hze, hf', newRow]
        rw [hrun]
        exact h1
      · exact hS hx
    · exact hS hx
  · exact hS hx
end

/-! ### Calls -/

/-- What a call comes to: from the entries hs to entries h' and a result r. -/
def Spec (P : Program) (f : FuncId) (hs : List Ent) (args : List SV) (Post : List Ent → SV → Prop) : Prop :=
  ∀ W F w, Rep W F hs w → Calls P f (denL args).toArray w fun e w' => ∃ h' r, Post h' r ∧ e = .returned (den r) ∧ Rep W F h' w'

/-- A contract: what must hold of the arguments and the entries, for N to hold behind. -/
abbrev Ctr := List SV → List Ent → (List Ent → SV → Prop) → Prop
def CtrOk (P : Program) (f : FuncId) (C : Ctr) : Prop := ∀ args hs N, C args hs N → Spec P f hs args N
abbrev Tbl := List (Nat × Ctr)
def AllOk (P : Program) : Tbl → Prop
  | [] => True
  | (f, C) :: l => CtrOk P f C ∧ AllOk P l
def look : Tbl → Nat → Option Ctr
  | [], _ => none
  | (f, C) :: l, g => match Nat.beq f g with
    | true => some C
    | false => look l g
theorem look_ok {P : Program} : ∀ {l : Tbl} {f : Nat} {C : Ctr}, AllOk P l → look l f = some C → CtrOk P f C
  | (g, D) :: l, f, C, h, hl => by
    simp only [look] at hl
    split at hl
    · rename_i e
      cases hl
      rw [Nat.beq_eq] at e
      subst e; exact h.1
    · exact look_ok h.2 hl

/-- A function of Go's text that the program calls. -/
def callOk (P : Program) (f : FuncId) : Bool :=
  match P.funcs[f]? with
  | some fn => fn.name != "runtime.NumGoroutine" && fn.body.isSome
  | none => false

def appS : List SV → List SV → List SV
  | [], l => l
  | v :: a, l => v :: appS a l
theorem denL_appS (a l : List SV) : denL (appS a l) = denL a ++ denL l := by
  induction a with
  | nil => rfl
  | cons v a ih => simp only [appS, denL, ih, List.cons_append]

def xcall (P : Program) (Cs : Tbl) (st : Sy) (dst : Option Tmp) (fv : Operand) (xs : List Operand) (N : Sy → Prop) (S : Prop) : Prop :=
  match st.eval fv with
  | .func (.func f) first captured => match look Cs f with
    | some C => callOk P f = true ∧ C (appS first (appS (evals st xs) captured)) st.heap (fun h' r => N (({ st with heap := h' } : Sy).put dst r))
    | none => S
  | _ => S

section
variable {P : Program} {W w : World} {F : List Ch} {st : Sy} {o : Oper} {Q : Exit → Act → World → Prop} {K : Act → World → Prop} {N : Sy → Prop} {Cs : Tbl}

theorem sound_xcall (hC : AllOk P Cs) (S : Prop) {fv : Operand} {xs : Array Operand} {ts : Array TypeId} (ho : o.op = .call ⟨.value fv, xs, ts⟩) (hN : ∀ st', N st' → ∀ w', Rep W F st'.heap w' → K (actOf st') w') (hr : Rep W F st.heap w)
    (hx : xcall P Cs st o.dst fv xs.toList N S) (hS : S → o.wp P (actOf st) w K Q) : o.wp P (actOf st) w K Q := by
  unfold xcall at hx
  split at hx
  · rename_i f first captured hfv
    split at hx
    · rename_i C hl
      obtain ⟨hok, hx⟩ := hx
      have h1 := den_eval st fv
      rw [hfv] at h1
      have hcall := look_ok hC hl _ _ _ hx W F w hr
      rw [denL_appS, denL_appS] at hcall
      have hres : (execOp (actOf st).eval o).run P w = .ok (.enter f ((denL first).toArray ++ xs.map (actOf st).eval ++ (denL captured).toArray)) w := by
        unfold callOk at hok
        split at hok
        · rename_i fn hfn
          simp only [Bool.and_eq_true, bne_iff_ne, ne_eq] at hok
          have hb : fn.body.isNone = false := by cases hfb : fn.body <;> simp_all
          simp [execOp, ho, resolve, ← h1, den, Deferred.ofValue, invoke, callFunc, hfn, hok.1]
          intro hnone; rw [hnone] at hb; cases hb
        · cases hok
      unfold Oper.wp
      rw [hres]
      have harr : (denL first).toArray ++ xs.map (actOf st).eval ++ (denL captured).toArray = (denL first ++ (denL (evals st xs.toList) ++ denL captured)).toArray := by
        apply Array.ext'
        simp [denL_evals]
      rw [harr]
      refine Calls.mono hcall ?_
      rintro e w' ⟨h', r, hpost, rfl, hr2⟩
      have h3 := hN _ hpost w' (by rw [heap_put]; exact hr2)
      rw [actOf_put] at h3
      exact h3
    · exact hS hx
  · exact hS hx
end

/-- One operation. N: what must hold of the state behind it; S: what must hold where the executor doesn't know it. -/
def xop (P : Program) (Cs : Tbl) (st : Sy) (o : Oper) (N : Sy → Prop) (S : Prop) : Prop :=
  match o.op with
  | .store t x y => match o.dst with
    | none => xstore P st t (st.eval x) (st.eval y) N S
    | some _ => S
  | .alloc T => match tzero P T with
    | some cs => newCells st o.dst cs T N
    | none => S
  | .box T x => allOne (cellsOf (st.eval x)) = true ∧ newCells st o.dst (cellsOf (st.eval x)) T N
  | .buildSlice t n parts => xbuildSlice P st o.dst t n parts.toList N S
  | .call ⟨.value fv, xs, _⟩ => xcall P Cs st o.dst fv xs.toList N S
  | op => (xres P st op).holds (fun v => N (st.put o.dst v)) S

section
variable {Cs : Tbl} {P : Program} {W w : World} {F : List Ch} {st : Sy} {o : Oper} {Q : Exit → Act → World → Prop} {K : Act → World → Prop} {N : Sy → Prop}

theorem sound_xop (hC : AllOk P Cs) (S : Prop) (hN : ∀ st', N st' → ∀ w', Rep W F st'.heap w' → K (actOf st') w') (hr : Rep W F st.heap w) (hx : xop P Cs st o N S) (hS : S → o.wp P (actOf st) w K Q) : o.wp P (actOf st) w K Q := by
  unfold xop at hx
  split at hx
  · rename_i t x y ho
    split at hx
    · rename_i hd; exact sound_xstore S t x y ho hd hN hr hx hS
    · exact hS hx
  · rename_i T ho
    split at hx
    · rename_i cs hz; exact sound_alloc T ho cs hz hN hr hx
    · exact hS hx
  · rename_i T x ho; exact sound_box T x ho hx.1 hN hr hx.2
  · rename_i t n parts ho; exact sound_xbuildSlice S t n parts ho hN hr hx hS
  · rename_i fv xs ts ho; exact sound_xcall hC S ho hN hr hx hS
  · exact yields_xres S hr (fun v h1 h2 => sound_pure hN hr v h1 h2) hx hS
end

def isUndef : SV → Bool
  | .raw (.tuple vs) => vs.size == 0
  | _ => false

/-- The slot that an operation of the region writes. -/
def slotOf (ops : Array Oper) (g : Nat) : Option Tmp :=
  match nth ops.toList g with
  | some o => o.dst
  | none => none
theorem slotOf_eq (ops : Array Oper) (g : Nat) : slotOf ops g = (ops[g]?).bind (·.dst) := by
  unfold slotOf
  rw [nth_eq, Array.getElem?_toList]
  cases ops[g]? <;> rfl

/-- An operation with its guard. -/
def xguard (P : Program) (Cs : Tbl) (ops : Array Oper) (st : Sy) (o : Oper) (N : Sy → Prop) (S : Prop) : Prop :=
  match o.guard with
  | none => xop P Cs st o N S
  | some (g, want) => match slotOf ops g with
    | some t => match nth st.tmps t with
      | some (.bool b) => match want with
        | true => match b with
          | true => xop P Cs { st with tmps := setN st.tmps t (.bool true) } o N S
          | false => N (({ st with tmps := setN st.tmps t (.bool false) } : Sy).put o.dst (.raw undef))
        | false => match b with
          | true => N (({ st with tmps := setN st.tmps t (.bool true) } : Sy).put o.dst (.raw undef))
          | false => xop P Cs { st with tmps := setN st.tmps t (.bool false) } o N S
      | some v => isUndef v = true ∧ N (st.put o.dst (.raw undef))
      | none => S
    | none => S

section
variable {Cs : Tbl} {P : Program} {W w : World} {F : List Ch} {st : Sy} {o : Oper} {Q : Exit → Act → World → Prop} {ops : Array Oper} {rest : List Oper} {N : Sy → Prop}

theorem actOf_same (t : Nat) (b : Bool) (h : nth st.tmps t = some (.bool b)) : actOf { st with tmps := setN st.tmps t (.bool b) } = actOf st := by
  unfold actOf
  simp only [setN_eq]
  rw [nth_eq] at h
  obtain ⟨hlt, he⟩ := List.getElem?_eq_some_iff.1 h
  rw [← he, List.set_getElem_self]

theorem yielded_slot {g t : Nat} (ht : slotOf ops g = some t) : yielded ops (actOf st).tmps g = match (nth st.tmps t).map den with | some (.bool b) => some b | _ => none := by
  unfold yielded
  rw [← slotOf_eq, ht]
  simp only [Option.bind_some, actOf, nth_eq, denL_eq, List.getElem?_toArray, List.getElem?_map]
  cases st.tmps[t]? <;> rfl

theorem sound_xguard (hC : AllOk P Cs) (S : Prop) (hN : ∀ st', N st' → ∀ w', Rep W F st'.heap w' → wpList P ops Q rest (actOf st') w') (hr : Rep W F st.heap w) (hx : xguard P Cs ops st o N S)
    (hS : S → ∀ w, Rep W F st.heap w → wpList P ops Q (o :: rest) (actOf st) w) (hS2 : ∀ t b, nth st.tmps t = some (.bool b) → S → wpList P ops Q (o :: rest) (actOf st) w) : wpList P ops Q (o :: rest) (actOf st) w := by
  unfold xguard at hx
  split at hx
  · rename_i hg
    by_cases hs : S
    · exact hS hs w hr
    · refine wpList_plain hg fun K hK => ?_
      exact sound_xop hC S (fun st' h1 w' h2 => hK _ _ (hN st' h1 w' h2)) hr hx (fun h => (hs h).elim)
  · rename_i g want hg
    split at hx
    · rename_i t ht
      have hy := yielded_slot (st := st) ht
      split at hx
      · rename_i b hb
        rw [hb] at hy
        simp only [Option.map_some, den] at hy
        have yes : ∀ bb : Bool, b = bb → want = bb → xop P Cs { st with tmps := setN st.tmps t (.bool bb) } o N S → wpList P ops Q (o :: rest) (actOf st) w := by
          intro bb e1 e2 h1
          subst e1; subst e2
          by_cases hs : S
          · exact hS hs w hr
          · refine wpList_step fun K hK => ?_
            rw [if_pos (by simp [Region.wanted, hg, hy])]
            have hsame := actOf_same t want hb
            rw [← hsame]
            exact sound_xop hC S (fun st' h1 w' h2 => hK _ _ (hN st' h1 w' h2)) (st := { st with tmps := setN st.tmps t (.bool want) }) hr h1 (fun h => (hs h).elim)
        have no : ∀ bb : Bool, b = bb → want = !bb → N (({ st with tmps := setN st.tmps t (.bool bb) } : Sy).put o.dst (.raw undef)) → wpList P ops Q (o :: rest) (actOf st) w := by
          intro bb e1 e2 h1
          subst e1; subst e2
          refine wpList_step fun K hK => ?_
          rw [if_neg (by simp [Region.wanted, hg, hy])]
          have hsame := actOf_same t b hb
          have h2 := hN _ h1 w (by rw [heap_put]; exact hr)
          rw [actOf_put, hsame] at h2
          exact hK _ _ h2
        cases want <;> cases b
        · exact yes false rfl rfl hx
        · exact no true rfl rfl hx
        · exact no false rfl rfl hx
        · exact yes true rfl rfl hx
      · rename_i v hnb hv
        obtain ⟨hu, hx⟩ := hx
        rw [hv] at hy
        have hd : den v = .tuple #[] := by
          unfold isUndef at hu
          split at hu
          · rename_i vs
            have : vs = #[] := by apply Array.eq_empty_of_size_eq_zero; simpa using hu
            subst this; rfl
          · cases hu
        simp only [Option.map_some, hd] at hy
        refine wpList_step fun K hK => ?_
        rw [if_neg (by simp [Region.wanted, hg, hy])]
        have h2 := hN _ hx w (by rw [heap_put]; exact hr)
        rw [actOf_put] at h2
        exact hK _ _ h2
      · exact hS hx w hr
    · exact hS hx w hr
end
end Go.Proofs.Ytjnkfgigpapeaaa
