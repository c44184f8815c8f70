import Derived.Test.YtkcmgcoppecfpaaMgLoopOnce2
import Derived.Maps.RangeRun
set_option linter.unusedVariables false
set_option linter.unusedSimpArgs false
set_option linter.unnecessarySimpa false
set_option maxHeartbeats 0
set_option maxRecDepth 100000
/- The symbolic executor: new slices and maps; one operation; the run. -/
namespace Go.Proofs.Ytkcmgcoppecfpaa
open Go Go.RowKit Go.ChangeMaps Go.MapKept
universe u

def zerosN (n : Nat) (cs : List SV) : List SV :=
  match n with
  | 0 => []
  | n + 1 => cs ++ zerosN n cs

theorem zeros_get (cs : List SV) (h : 0 < cs.length) : ∀ (n j : Nat), j < n * cs.length → (denL (zerosN n cs))[j]? = (denL cs)[j % cs.length]?
  | 0, j, hj => by omega
  | n + 1, j, hj => by
    rw [zerosN]
    have e : ∀ a b : List SV, denL (a ++ b) = denL a ++ denL b := fun a b => by simp [denL_eq]
    rw [e]
    by_cases hlt : j < cs.length
    · rw [List.getElem?_append_left (by rw [length_denL]; exact hlt), Nat.mod_eq_of_lt hlt]
    · rw [List.getElem?_append_right (by rw [length_denL]; omega), length_denL]
      rw [zeros_get cs h n (j - cs.length) (by rw [Nat.succ_mul] at hj; omega)]
      rw [← Nat.mod_eq_sub_mod (by omega)]

theorem length_zerosN (n : Nat) (cs : List SV) : (zerosN n cs).length = n * cs.length := by
  induction n with
  | zero => simp [zerosN]
  | succ n ih => rw [zerosN, List.length_append, ih, Nat.succ_mul]; omega

theorem zeros_eq (n : Nat) (cs : List SV) (h : 0 < cs.length) : (Array.range (n * cs.length)).map (fun j => (denL cs).toArray[j % (denL cs).toArray.size]!) = (denL (zerosN n cs)).toArray := by
  apply Array.ext_getElem?
  intro j
  by_cases hj : j < n * cs.length
  · have h1 := zeros_get cs h n j hj
    have h2 : j % cs.length < (denL cs).length := by rw [length_denL]; exact Nat.mod_lt _ h
    simp only [Array.getElem?_map, Array.getElem?_range, hj, List.size_toArray, length_denL, List.getElem?_toArray, h1]
    simp [h2]
  · have h2 : (denL (zerosN n cs)).length ≤ j := by rw [length_denL, length_zerosN]; omega
    simp [hj, h2]


def xbuildSlice (P : Program) (st : Sy) (dst : Option Tmp) (t : TypeId) (n : Nat) (parts : List (Nat × Operand)) (N : Sy → Prop) (S : Prop) : Prop :=
  match tslice P t with
  | some (e, k) => match n with
   | 0 => match parts with
    | [] => ∀ b, N ({ st with heap := snoc st.heap ⟨.sl (some ⟨b, 0, none⟩) 0, .vecV e k 0 []⟩ }.put dst (.vec (lenN st.heap) (some ⟨b, 0, none⟩) 0 0))
    | _ => S
   | n + 1 => match tzero P e with
    | some cs => match fillV (evenPlaces k (n + 1) 0) (zerosN (n + 1) cs) (evalParts st parts) with
      | some r => (allParts (evalParts st parts) = true ∧ lenN cs = k ∧ 0 < (n + 1) * k ∧ (n + 1) * k ≤ 16777216) ∧
          ∀ b, N ({ st with heap := snoc st.heap ⟨.blk b, .cells r e⟩ }.put dst (.vec (lenN st.heap) (some ⟨b, 0, none⟩) (n + 1) (n + 1)))
      | none => S
    | none => S
  | none => S

section
variable {P : Program} {W w : World} {F : List Ch} {st : Sy} {o : Oper} {Q : Exit → Act → World → Prop} {K : Act → World → Prop} {N : Sy → Prop}

theorem sound_xbuildSlice (S : Prop) (t : TypeId) (n : Nat) (parts : Array (Nat × Operand)) (ho : o.op = .buildSlice t n parts) (hN : ∀ st', N st' → ∀ w', Rep W F st'.heap w' → K (actOf st') w') (hr : Rep W F st.heap w)
    (hx : xbuildSlice P st o.dst t n parts.toList N S) (hS : S → o.wp P (actOf st) w K Q) : o.wp P (actOf st) w K Q := by
  unfold xbuildSlice at hx
  split at hx
  · rename_i e k e1
    split at hx
    · split at hx
      · rename_i hparts
        have hp : parts = #[] := by simpa using hparts
        subst hp
        have hsl : P.underlying t = some (.slice e) ∧ ∃ i, P.info? e = some i ∧ i.size = k := by
          unfold tslice at e1
          split at e1
          · rename_i e' hu
            obtain ⟨i', hi', he⟩ := Option.map_eq_some_iff.1 e1
            cases he
            exact ⟨hu, i', hi', rfl⟩
          · cases e1
        obtain ⟨hu, i, hi, hsz⟩ := hsl
        have h1 := hN _ (hx w.heap.size) (w.alloc (.cells #[] e (0, 0))) (by
          rw [heap_put]
          exact hr.new (e := ⟨.sl (some ⟨w.heap.size, 0, none⟩) 0, .vecV e k 0 []⟩) (c := [(w.heap.size, .cells #[] e (0, 0))]) ⟨by simp [denL], Nat.le_refl _, .inr ⟨_, 0, #[], rfl, rfl, by simp, by simp [denL]⟩⟩ (fun L hL => hL.alloc _))
        rw [actOf_put] at h1
        unfold Oper.wp
        have hrun : (execOp (actOf st).eval o).run P w = .ok (.value (.slice (some ⟨w.heap.size, 0, none⟩) 0 0)) (w.alloc (.cells #[] e (0, 0))) := by
          simp [execOp, ho, Instr.buildSlice, Sem.run_bind, underlying, hu, sizeOf, typeInfo, hi, hsz, newRow, Instr.fill]
          have e0 : Array.map (fun _ => (default : Value)) (Array.range 0) = #[] := Array.ext (by simp) (by simp)
          rw [e0]
        rw [hrun]
        exact h1
      · exact hS hx
    rename_i n
    split at hx
    · rename_i cs e2
      split at hx
      · rename_i r e3
        obtain ⟨⟨g1, g2, g3, g4⟩, hx⟩ := hx
        rw [lenN_eq] at g2
        have hk : 0 < k := Nat.pos_of_mul_pos_left g3
        obtain ⟨z, hz1, hzc⟩ := Option.map_eq_some_iff.1 e2
        obtain ⟨i, hi, hz2⟩ := Option.bind_eq_some_iff.1 hz1
        have hd : (denL cs).toArray = z.cells := by
          rw [← hzc]
          apply Array.ext'
          simp only [denL_eq, List.map_map]
          rw [show den ∘ ofValue = id from funext den_ofValue, List.map_id]
        have hsl : P.underlying t = some (.slice e) ∧ i.size = k := by
          unfold tslice at e1
          split at e1
          · rename_i e' hu
            obtain ⟨i', hi', he⟩ := Option.map_eq_some_iff.1 e1
            cases he
            rw [hi'] at hi; cases hi
            exact ⟨hu, rfl⟩
          · cases e1
        obtain ⟨hu, hsz⟩ := hsl
        have hze := zeros_eq (n + 1) cs (by omega)
        rw [g2, hd] at hze
        have hf := fill_of_fillV (nth (evenPlaces k (n + 1) 0)) (evenPlaces k (n + 1) 0) (fun _ => rfl) (evalParts st parts.toList) _ r (allParts_mem _ g1) (fun p hp x hx => by
          have hlt := nth_evenPlaces_some k (n + 1) 0 _ _ hx
          rw [nth_evenPlaces k (n + 1) 0 _ hlt] at hx
          cases hx
          rw [length_zerosN, g2]
          simp only [Nat.zero_add]
          have : (p.1 + 1) * k ≤ (n + 1) * k := Nat.mul_le_mul_right _ hlt
          rw [Nat.succ_mul] at this; exact this) e3
        rw [evalParts_eq] at hf
        have hf' : Instr.fill (fun i => some (i * k, k)) (denL (zerosN (n + 1) cs)).toArray (parts.toList.map fun p => (p.1, (actOf st).eval p.2)) = some (denL r).toArray := by
          rw [← hf]
          apply fill_place_congr
          intro x hx
          rw [← evalParts_eq] at hx
          obtain ⟨p, hp, rfl⟩ := List.mem_map.1 hx
          obtain ⟨y, hy⟩ := fillV_nth _ _ _ _ e3 p hp
          have hlt := nth_evenPlaces_some k (n + 1) 0 _ _ hy
          rw [nth_evenPlaces k (n + 1) 0 _ hlt]; simp
        have hn := hx w.heap.size
        have h1 := hN _ hn (w.alloc (.cells (denL r).toArray e (0, 0))) (by
          rw [heap_put]
          exact hr.new (e := ⟨.blk w.heap.size, .cells r e⟩) (c := [(w.heap.size, .cells (denL r).toArray e (0, 0))]) rfl (fun L hL => hL.alloc _))
        rw [actOf_put] at h1
        unfold Oper.wp
        have hne : ¬ ((n + 1) * k = 0) := by omega
        have h24 : ¬ (16777216 < (n + 1) * k) := by omega
        have hrun : (execOp (actOf st).eval o).run P w = .ok (.value (.slice (some ⟨w.heap.size, 0, none⟩) (n + 1) (n + 1))) (w.alloc (.cells (denL r).toArray e (0, 0))) := by
          simp only [execOp, ho, Instr.buildSlice, Sem.run_bind, underlying, run_program, Result.andThen_ok, hu, Sem.run_pure, sizeOf, typeInfo, hi, hsz, zeroValue]
          rw [if_neg (by omega)]
          simp [hne, hi, hz2, hze, hf', newRow]
        rw [hrun]
        exact h1
      · exact hS hx
    · exact hS hx
  · exact hS hx
end

/-! ### Calls -/

def Spec (P : Program) (f : FuncId) (hs : List Ent) (args : List SV) (Post : List Ent → SV → Prop) : Prop :=
  ∀ W F w, Rep W F hs w → Calls P f (denL args).toArray w fun e w' => ∃ h' r, Post h' r ∧ e = .returned (den r) ∧ Rep W F h' w'

abbrev Ctr := List SV → List Ent → (List Ent → SV → Prop) → Prop
def CtrOk (P : Program) (f : FuncId) (C : Ctr) : Prop := ∀ args hs N, C args hs N → Spec P f hs args N
abbrev Tbl := List (Nat × Ctr)
def AllOk (P : Program) : Tbl → Prop
  | [] => True
  | (f, C) :: l => CtrOk P f C ∧ AllOk P l
def look : Tbl → Nat → Option Ctr
  | [], _ => none
  | (f, C) :: l, g => match Nat.beq f g with
    | true => some C
    | false => look l g
theorem look_ok {P : Program} : ∀ {l : Tbl} {f : Nat} {C : Ctr}, AllOk P l → look l f = some C → CtrOk P f C
  | (g, D) :: l, f, C, h, hl => by
    simp only [look] at hl
    split at hl
    · rename_i e
      cases hl
      rw [Nat.beq_eq] at e
      subst e; exact h.1
    · exact look_ok h.2 hl

def callOk (P : Program) (f : FuncId) : Bool :=
  match P.funcs[f]? with
  | some fn => fn.name != "runtime.NumGoroutine" && fn.body.isSome
  | none => false

def appS : List SV → List SV → List SV
  | [], l => l
  | v :: a, l => v :: appS a l
theorem denL_appS (a l : List SV) : denL (appS a l) = denL a ++ denL l := by
  induction a with
  | nil => rfl
  | cons v a ih => simp only [appS, denL, ih, List.cons_append]

def xcall (P : Program) (Cs : Tbl) (st : Sy) (dst : Option Tmp) (fv : Operand) (xs : List Operand) (N : Sy → Prop) (S : Prop) : Prop :=
  match st.eval fv with
  | .func (.func f) first captured => match look Cs f with
    | some C => callOk P f = true ∧ C (appS first (appS (evals st xs) captured)) st.heap (fun h' r => N (({ st with heap := h' } : Sy).put dst r))
    | none => S
  | _ => S

section
variable {P : Program} {W w : World} {F : List Ch} {st : Sy} {o : Oper} {Q : Exit → Act → World → Prop} {K : Act → World → Prop} {N : Sy → Prop} {Cs : Tbl}

theorem sound_xcall (hC : AllOk P Cs) (S : Prop) {fv : Operand} {xs : Array Operand} {ts : Array TypeId} (ho : o.op = .call ⟨.value fv, xs, ts⟩) (hN : ∀ st', N st' → ∀ w', Rep W F st'.heap w' → K (actOf st') w') (hr : Rep W F st.heap w)
    (hx : xcall P Cs st o.dst fv xs.toList N S) (hS : S → o.wp P (actOf st) w K Q) : o.wp P (actOf st) w K Q := by
  unfold xcall at hx
  split at hx
  · rename_i f first captured hfv
    split at hx
    · rename_i C hl
      obtain ⟨hok, hx⟩ := hx
      have h1 := den_eval st fv
      rw [hfv] at h1
      have hcall := look_ok hC hl _ _ _ hx W F w hr
      rw [denL_appS, denL_appS] at hcall
      have hres : (execOp (actOf st).eval o).run P w = .ok (.enter f ((denL first).toArray ++ xs.map (actOf st).eval ++ (denL captured).toArray)) w := by
        unfold callOk at hok
        split at hok
        · rename_i fn hfn
          simp only [Bool.and_eq_true, bne_iff_ne, ne_eq] at hok
          have hb : fn.body.isNone = false := by cases hfb : fn.body <;> simp_all
          simp [execOp, ho, resolve, ← h1, den, Deferred.ofValue, invoke, callFunc, hfn, hok.1]
          intro hnone; rw [hnone] at hb; cases hb
        · cases hok
      unfold Oper.wp
      rw [hres]
      have harr : (denL first).toArray ++ xs.map (actOf st).eval ++ (denL captured).toArray = (denL first ++ (denL (evals st xs.toList) ++ denL captured)).toArray := by
        apply Array.ext'
        simp [denL_evals]
      rw [harr]
      refine Calls.mono hcall ?_
      rintro e w' ⟨h', r, hpost, rfl, hr2⟩
      have h3 := hN _ hpost w' (by rw [heap_put]; exact hr2)
      rw [actOf_put] at h3
      exact h3
    · exact hS hx
  · exact hS hx
end

/-! ### Calls through an interface -/

def tmeth (P : Program) (t : TypeId) (name : String) : Option FuncId :=
  match P.info? t with
  | some i => match i.methods.find? (·.name == name) with
    | some m => match m.path.toList, m.func, P.underlying t with
      | [], some (f, true), some (.pointer _) => some f
      | _, _, _ => none
    | none => none
  | none => none

theorem run_method {P : Program} {t : TypeId} {name : String} {f : FuncId} (h : tmeth P t name = some f) (n : Nat) (v : Value) (w : World) : (method (n + 1) t v name).run P w = .ok (f, v) w := by
  unfold tmeth at h
  split at h
  · rename_i i hi
    split at h
    · rename_i m hm
      split at h
      · rename_i f' e hp hf hu
        cases h
        simp only [method, typeInfo, Sem.run_bind, run_program, Result.andThen_ok, hi, Sem.run_pure, hm, hp, follow, hf, receiverAt, underlying, hu, Place.get]
      · cases h
    · cases h
  · cases h

def xinvoke (P : Program) (Cs : Tbl) (st : Sy) (dst : Option Tmp) (x : Operand) (name : String) (xs : List Operand) (N : Sy → Prop) (S : Prop) : Prop :=
  match st.eval x with
  | .iface t v => match tmeth P t name with
    | some f => match look Cs f with
      | some C => callOk P f = true ∧ C (v :: evals st xs) st.heap (fun h' r => N (({ st with heap := h' } : Sy).put dst r))
      | none => S
    | none => S
  | _ => S

section
variable {P : Program} {W w : World} {F : List Ch} {st : Sy} {o : Oper} {Q : Exit → Act → World → Prop} {K : Act → World → Prop} {N : Sy → Prop} {Cs : Tbl}

theorem sound_xinvoke (hC : AllOk P Cs) (S : Prop) {x : Operand} {name : String} {xs : Array Operand} {ts : Array TypeId} (ho : o.op = .call ⟨.invoke x name, xs, ts⟩) (hN : ∀ st', N st' → ∀ w', Rep W F st'.heap w' → K (actOf st') w') (hr : Rep W F st.heap w)
    (hx : xinvoke P Cs st o.dst x name xs.toList N S) (hS : S → o.wp P (actOf st) w K Q) : o.wp P (actOf st) w K Q := by
  unfold xinvoke at hx
  split at hx
  · rename_i t v hv
    split at hx
    · rename_i f hf
      split at hx
      · rename_i C hl
        obtain ⟨hok, hx⟩ := hx
        have h1 := den_eval st x
        rw [hv] at h1
        have hcall := look_ok hC hl _ _ _ hx W F w hr
        have hres : (execOp (actOf st).eval o).run P w = .ok (.enter f (#[den v] ++ xs.map (actOf st).eval)) w := by
          have hm : (method (P.types.size + Made.depth) t (den v) name).run P w = .ok (f, den v) w := run_method hf (P.types.size + 99) (den v) w
          unfold callOk at hok
          split at hok
          · rename_i fn hfn
            simp only [Bool.and_eq_true, bne_iff_ne, ne_eq] at hok
            have hb : fn.body.isNone = false := by cases hfb : fn.body <;> simp_all
            have hex : (#[(actOf st).eval x] ++ xs.map (actOf st).eval).extract 1 (#[(actOf st).eval x] ++ xs.map (actOf st).eval).size = xs.map (actOf st).eval := by
              apply Array.ext'
              simp
              exact List.take_of_length_le (by simp)
            have hcf : ∀ args, (callFunc f args).run P w = .ok (.enter f args) w := fun args => by
              simp [callFunc, hfn, hok.1]
              intro hnone; rw [hnone] at hb; cases hb
            have hci : (callMethod (.iface t (den v)) name (xs.map (actOf st).eval)).run P w = .ok (.enter f (#[den v] ++ xs.map (actOf st).eval)) w := by
              simp only [callMethod, Sem.run_bind, run_program, Result.andThen_ok, hm, hcf]
            have h0 : (#[(actOf st).eval x] ++ xs.map (actOf st).eval)[0]? = some ((actOf st).eval x) := by rw [Array.getElem?_append_left (show 0 < 1 from Nat.one_pos)]; rfl
            simp only [execOp, ho, resolve, Sem.run_bind, Sem.run_pure, Result.andThen_ok]
            unfold invoke
            simp only [h0, hex]
            rw [← h1]
            exact hci
          · cases hok
        unfold Oper.wp
        rw [hres]
        have harr : #[den v] ++ xs.map (actOf st).eval = (denL (v :: evals st xs.toList)).toArray := by
          apply Array.ext'
          simp [denL, denL_evals]
        rw [harr]
        refine Calls.mono hcall ?_
        rintro e w' ⟨h', r, hpost, rfl, hr2⟩
        have h3 := hN _ hpost w' (by rw [heap_put]; exact hr2)
        rw [actOf_put] at h3
        exact h3
      · exact hS hx
    · exact hS hx
  · exact hS hx
end

/-! ### append -/

def tapp (P : Program) (t : TypeId) : Option (TypeId × Nat × Nat) :=
  match P.underlying t with
  | some (.slice e) => match P.info? e with
    | some i => match i.zero with
      | some z => match Nat.beq z.cells.size i.size with
        | true => some (e, i.size, i.bytes)
        | false => none
      | none => none
    | none => none
  | _ => none

def xappend (P : Program) (st : Sy) (dst : Option Tmp) (t : TypeId) (x y : SV) (N : Sy → Prop) (S : Prop) : Prop :=
  match x, y with
  | .vec l ao n cap, .vec l2 av m k => match nth st.heap l, nth st.heap l2, tapp P t with
    | some ⟨.sl ao' cap', .vecL T sz enc xs d⟩, some ⟨.blk b2', .cells r _⟩, some (e, sz', bytes) =>
      (ao' = ao ∧ cap' = cap ∧ n = xs.length ∧ av = some ⟨b2', 0, none⟩ ∧ T = e ∧ sz = sz' ∧ lenN r = m * sz ∧ 0 < m ∧ allOne r = true ∧ (n + m) * bytes ≤ 140737488355328 ∧ n + m ≤ 9223372036854775807) ∧
        ∃ es, es.length = m ∧ denL (es.flatMap enc) = denL r ∧ ∀ ao2 cap2, n + m ≤ cap2 → N (({ st with heap := setN st.heap l ⟨.sl ao2 cap2, .vecL T sz enc (xs ++ es) d⟩ } : Sy).put dst (.vec l ao2 (n + m) cap2))
    | some ⟨.sl ao' cap', .vecV T sz n' cs⟩, some ⟨.blk b2', .cells r _⟩, some (e, sz', bytes) =>
      (ao' = ao ∧ cap' = cap ∧ n = n' ∧ av = some ⟨b2', 0, none⟩ ∧ T = e ∧ sz = sz' ∧ lenN r = m * sz ∧ 0 < m ∧ allOne r = true ∧ (n + m) * bytes ≤ 140737488355328 ∧ n + m ≤ 9223372036854775807) ∧
        ∀ ao2 cap2, n + m ≤ cap2 → N (({ st with heap := setN st.heap l ⟨.sl ao2 cap2, .vecV T sz (n + m) (appS cs r)⟩ } : Sy).put dst (.vec l ao2 (n + m) cap2))
    | some ⟨.sl ao' cap', .vecV T sz n' cs⟩, some ⟨.sl ao3 cap3, .vecL T3 sz3 enc xs d⟩, some (e, sz', bytes) =>
      (ao' = ao ∧ cap' = 0 ∧ cap = 0 ∧ n = 0 ∧ n' = 0 ∧ ao3 = av ∧ T = e ∧ sz = sz' ∧ sz3 = sz ∧ m = xs.length ∧ m * bytes ≤ 140737488355328 ∧ m ≤ 9223372036854775807) ∧
        ∀ ao2 cap2, m ≤ cap2 → N (({ st with heap := setN st.heap l ⟨.sl ao2 cap2, .vecL T sz enc xs d⟩ } : Sy).put dst (.vec l ao2 m cap2))
    | some ⟨.sl ao' cap', .vecL T sz enc xs d⟩, some ⟨.sl ao3 cap3, .vecL T3 sz3 enc3 ys d3⟩, some (e, sz', bytes) =>
      (ao' = ao ∧ cap' = cap ∧ n = xs.length ∧ T = e ∧ sz = sz' ∧ ao3 = av ∧ m = ys.length ∧ sz3 = sz ∧ (∀ y, allOne (enc3 y) = true) ∧ (n + m) * bytes ≤ 140737488355328 ∧ n + m ≤ 9223372036854775807) ∧
        ∃ es, es.length = m ∧ denL (es.flatMap enc) = denL (ys.flatMap enc3) ∧ ∀ ao2 cap2, n + m ≤ cap2 → N (({ st with heap := setN st.heap l ⟨.sl ao2 cap2, .vecL T sz enc (xs ++ es) d⟩ } : Sy).put dst (.vec l ao2 (n + m) cap2))
    | some ⟨.blk b', .cells r T0⟩, some ⟨.sl ao3 cap3, .vecL T3 sz3 enc3 ys d3⟩, some (e, sz', bytes) =>
      (ao = some ⟨b', 0, none⟩ ∧ cap = n ∧ T0 = e ∧ ao3 = av ∧ m = ys.length ∧ sz3 = sz' ∧ (∀ y, allOne (enc3 y) = true) ∧ (n + m) * bytes ≤ 140737488355328 ∧ n + m ≤ 9223372036854775807) ∧
        ∃ es, es.length = n ∧ denL (es.flatMap enc3) = denL r ∧ ∀ ao2 cap2, n + m ≤ cap2 → N (({ st with heap := setN st.heap l ⟨.sl ao2 cap2, .vecL e sz' enc3 (es ++ ys) d3⟩ } : Sy).put dst (.vec l ao2 (n + m) cap2))
    | _, _, _ => S
  | .vec l ao n cap, .sub l2 av k2 sz0 lo hi => match nth st.heap l, nth st.heap l2, tapp P t with
    | some ⟨.sl ao' cap', .vecL T sz enc xs d⟩, some ⟨.sl ao3 cap3, .vecL T3 sz3 enc3 ys d3⟩, some (e, sz', bytes) =>
      (ao' = ao ∧ cap' = cap ∧ n = xs.length ∧ T = e ∧ sz = sz' ∧ ao3 = av ∧ cap3 = k2 ∧ sz0 = sz3 ∧ sz3 = sz ∧ lo ≤ hi ∧ hi ≤ ys.length ∧ (∀ y, allOne (enc3 y) = true) ∧ (n + (hi - lo)) * bytes ≤ 140737488355328 ∧ n + (hi - lo) ≤ 9223372036854775807) ∧
        ∃ es, es.length = hi - lo ∧ denL (es.flatMap enc) = denL (((ys.drop lo).take (hi - lo)).flatMap enc3) ∧ ∀ ao2 cap2, n + (hi - lo) ≤ cap2 → N (({ st with heap := setN st.heap l ⟨.sl ao2 cap2, .vecL T sz enc (xs ++ es) d⟩ } : Sy).put dst (.vec l ao2 (n + (hi - lo)) cap2))
    | _, _, _ => S
  | .raw (.slice none 0 0), .sub l2 av k2 sz0 lo hi => match nth st.heap l2, tapp P t with
    | some ⟨.sl ao3 cap3, .vecL T3 sz3 enc3 ys d3⟩, some (e, sz', bytes) =>
      (ao3 = av ∧ cap3 = k2 ∧ sz0 = sz3 ∧ sz3 = sz' ∧ lo ≤ hi ∧ hi ≤ ys.length ∧ (hi - lo) * bytes ≤ 140737488355328 ∧ hi - lo ≤ 9223372036854775807) ∧
        ∀ ao2 cap2, hi - lo ≤ cap2 → N (({ st with heap := snoc st.heap ⟨.sl ao2 cap2, .vecL e sz' enc3 ((ys.drop lo).take (hi - lo)) d3⟩ } : Sy).put dst (.vec (lenN st.heap) ao2 (hi - lo) cap2))
    | _, _ => S
  | .raw (.slice none 0 0), .vec l2 av m k => match nth st.heap l2, tapp P t with
    | some ⟨.blk b2', .cells r _⟩, some (e, sz', bytes) =>
      (av = some ⟨b2', 0, none⟩ ∧ lenN r = m * sz' ∧ 0 < m ∧ allOne r = true ∧ (0 + m) * bytes ≤ 140737488355328 ∧ 0 + m ≤ 9223372036854775807) ∧
        ∀ ao2 cap2, m ≤ cap2 → N (({ st with heap := snoc st.heap ⟨.sl ao2 cap2, .vecV e sz' m r⟩ } : Sy).put dst (.vec (lenN st.heap) ao2 m cap2))
    | some ⟨.sl ao3 cap3, .vecL T3 sz3 enc3 ys d3⟩, some (e, sz', bytes) =>
      (ao3 = av ∧ m = ys.length ∧ sz3 = sz' ∧ m * bytes ≤ 140737488355328 ∧ m ≤ 9223372036854775807) ∧
        ∀ ao2 cap2, m ≤ cap2 → N (({ st with heap := snoc st.heap ⟨.sl ao2 cap2, .vecL e sz' enc3 ys d3⟩ } : Sy).put dst (.vec (lenN st.heap) ao2 m cap2))
    | some ⟨.sl ao3 cap3, .roL sz3 enc3 ys d3⟩, some (e, sz', bytes) =>
      (ao3 = av ∧ m = ys.length ∧ sz3 = sz' ∧ m * bytes ≤ 140737488355328 ∧ m ≤ 9223372036854775807) ∧
        ∀ ao2 cap2, m ≤ cap2 → N (({ st with heap := snoc st.heap ⟨.sl ao2 cap2, .vecL e sz' enc3 ys d3⟩ } : Sy).put dst (.vec (lenN st.heap) ao2 m cap2))
    | _, _ => S
  | _, _ => S

section
variable {P : Program} {W w : World} {F : List Ch} {st : Sy} {o : Oper} {Q : Exit → Act → World → Prop} {K : Act → World → Prop} {N : Sy → Prop}

theorem flatV_eq {α : Type} (enc : α → List SV) (es : List α) : flatV enc es = denL (es.flatMap enc) := by
  unfold flatV
  induction es with
  | nil => rfl
  | cons e es ih => simp only [List.flatMap_cons, denL_eq, List.map_append] at ih ⊢; rw [ih]

theorem tapp_spec {t e : TypeId} {sz bytes : Nat} (h : tapp P t = some (e, sz, bytes)) : ∃ i z, P.underlying t = some (.slice e) ∧ P.info? e = some i ∧ i.zero = some z ∧ z.cells.size = sz ∧ i.size = sz ∧ i.bytes = bytes := by
  unfold tapp at h
  split at h
  · rename_i e' hu
    split at h
    · rename_i i hi
      split at h
      · rename_i z hz
        split at h
        · rename_i hzz
          simp only [Option.some.injEq, Prod.mk.injEq] at h
          obtain ⟨rfl, rfl, rfl⟩ := h
          rw [Nat.beq_eq] at hzz
          exact ⟨i, z, hu, hi, hz, hzz, rfl, rfl⟩
        · cases h
      · cases h
    · cases h
  · cases h

theorem part_cells {α : Type} {enc : α → List SV} {ys : List α} {d : α} {sz cap lo hi : Nat} {ao : Option Addr} (he : ∀ x, (enc x).length = sz) (hcap : ys.length ≤ cap) (hao : 0 < ys.length → ao = some ⟨Addr.blkD ao, Addr.offD ao, none⟩)
    (hc : ∀ i fo, i < ys.length → fo < sz → w.cell? ⟨Addr.blkD ao, Addr.offD ao + (i * sz + fo), none⟩ = (denL (enc (ys.getD i d)))[fo]?) (hlo : lo ≤ hi) (hhi : hi ≤ ys.length) :
    ((ys.drop lo).take (hi - lo)).length = hi - lo ∧ (0 < hi - lo → ∃ a, (if cap = lo then ao else ao.map (·.add (lo * sz))) = some a ∧ ∀ j u, (flatV enc ((ys.drop lo).take (hi - lo)))[j]? = some u → w.cell? (a.add j) = some u) := by
  have hlen : ((ys.drop lo).take (hi - lo)).length = hi - lo := by simp; omega
  refine ⟨hlen, fun hm => ?_⟩
  have h0 := hao (by omega)
  refine ⟨⟨Addr.blkD ao, Addr.offD ao + lo * sz, none⟩, ?_, fun j u hu => ?_⟩
  · rw [if_neg (by omega), h0]
    simp only [Option.map_some, Addr.add_mid']
    rfl
  · have hj : j < (hi - lo) * sz := by
      have := (List.getElem?_eq_some_iff.1 hu).1
      rw [length_flatV he, hlen] at this; exact this
    have hs : 0 < sz := Nat.pos_of_ne_zero (by rintro rfl; simp at hj)
    have hi' : j / sz < hi - lo := (Nat.div_lt_iff_lt_mul hs).2 hj
    have hf : j % sz < sz := Nat.mod_lt _ hs
    have hj' : j = j / sz * sz + j % sz := by rw [Nat.mul_comm]; exact (Nat.div_add_mod j sz).symm
    have hget : ((ys.drop lo).take (hi - lo)).getD (j / sz) d = ys.getD (lo + j / sz) d := by
      simp [List.getD, List.getElem?_take, hi', List.getElem?_drop]
    have e1 : Addr.offD ao + lo * sz + j = Addr.offD ao + ((lo + j / sz) * sz + j % sz) := by rw [Nat.add_mul]; omega
    rw [Addr.add_mid', e1, hc _ _ (by omega) hf, ← hget, ← flatV_get he d _ _ _ (by rw [hlen]; exact hi') hf, ← hj']
    exact hu

theorem whole_cells {α : Type} {enc : α → List SV} {ys : List α} {d : α} {sz : Nat} {ao : Option Addr} (he : ∀ x, (enc x).length = sz) (hao : 0 < ys.length → ao = some ⟨Addr.blkD ao, Addr.offD ao, none⟩)
    (hc : ∀ i fo, i < ys.length → fo < sz → w.cell? ⟨Addr.blkD ao, Addr.offD ao + (i * sz + fo), none⟩ = (denL (enc (ys.getD i d)))[fo]?) :
    0 < ys.length → ∃ a, ao = some a ∧ ∀ j u, (flatV enc ys)[j]? = some u → w.cell? (a.add j) = some u := by
  intro hm
  refine ⟨_, hao hm, fun j u hu => ?_⟩
  have hj : j < ys.length * sz := by
    rw [← length_flatV he ys]; exact (List.getElem?_eq_some_iff.1 hu).1
  have hs : 0 < sz := Nat.pos_of_ne_zero (by rintro rfl; simp at hj)
  have hi : j / sz < ys.length := (Nat.div_lt_iff_lt_mul hs).2 hj
  have hf : j % sz < sz := Nat.mod_lt _ hs
  have hj' : j = j / sz * sz + j % sz := by rw [Nat.mul_comm]; exact (Nat.div_add_mod j sz).symm
  rw [Addr.add_mid', hj', hc _ _ hi hf, ← flatV_get he d ys _ _ hi hf, ← hj']
  exact hu

theorem one_flatV {α : Type} {enc : α → List SV} (h : ∀ y, allOne (enc y) = true) (ys : List α) : ∀ u ∈ flatV enc ys, u.oneCell' = true := by
  intro u hu
  unfold flatV at hu
  obtain ⟨y, _, hy⟩ := List.mem_flatMap.1 hu
  exact oneCells_of_allOne _ (h y) u hy

theorem Rep.arrD {h : List Ent} {l b sz : Nat} {cs : List SV} {T : TypeId} {α : Type} (enc : α → List SV) (xs : List α) (d : α) (hl : nth h l = some ⟨.blk b, .cells cs T⟩) (hd : denL cs = flatV enc xs) (he : ∀ x, (enc x).length = sz)
    (hr : Rep W F h w) : Rep W F (setN h l ⟨.sl (some ⟨b, 0, none⟩) xs.length, .vecL T sz enc xs d⟩) w := by
  obtain ⟨c, L, hc, hH, hput⟩ := hr.get hl
  have hc : c = [(b, .cells (denL cs).toArray T (0, 0))] := hc
  subst hc
  refine hput ⟨.sl _ _, .vecL T sz enc xs d⟩ _ w ⟨⟨length_flatV he xs, Nat.le_refl _, .inr ⟨b, 0, _, rfl, rfl, ?_, ?_⟩⟩, he⟩ hH
  · rw [hd]; simp [length_flatV he xs]
  · rw [hd]; simp only [List.drop_zero]
    rw [← length_flatV he xs, List.take_length]

theorem sound_app_nil {x y : Operand} {t : TypeId} (ho : o.op = .call { callee := .builtin .append, args := #[x, y], argTypes := #[t, t] }) (hN : ∀ st', N st' → ∀ w', Rep W F st'.heap w' → K (actOf st') w') (hr : Rep W F st.heap w)
    {e : TypeId} {sz bytes : Nat} (e5 : tapp P t = some (e, sz, bytes)) (h1 : (actOf st).eval x = .slice none 0 0) {av : Option Addr} {m k : Nat} (h2 : (actOf st).eval y = .slice av m k) {α : Type} {enc : α → List SV} (zs : List α) (d : α) (he : ∀ x, (enc x).length = sz)
    (hz : zs.length = m) (hnews : 0 < m → ∃ a, av = some a ∧ ∀ j u, (flatV enc zs)[j]? = some u → w.cell? (a.add j) = some u) (g4 : m * bytes ≤ 140737488355328) (g5 : m ≤ 9223372036854775807)
    (hx : ∀ ao2 cap2, m ≤ cap2 → N (({ st with heap := snoc st.heap ⟨.sl ao2 cap2, .vecL e sz enc zs d⟩ } : Sy).put o.dst (.vec (lenN st.heap) ao2 m cap2))) : o.wp P (actOf st) w K Q := by
  obtain ⟨i, z, hu, hi, hz0, hzz, hsz, hby⟩ := tapp_spec e5
  obtain ⟨cs, ha, hH⟩ := hr
  have hH0 : H W w ([] :: (cs ++ F)) := hH.perm (by simp)
  refine wp_append_fresh x y t ho e z sz bytes hu (by rw [hi]; simp [hz0, hsz, hby]) hzz none h1 av m k h2 [] (Own.nil e sz) hH0 (flatV enc zs) (by rw [length_flatV he, hz]) hnews g4 g5 ?_
  intro ao2 cap2 w' c' hO' hH'
  have h3 := hN _ (hx ao2 cap2 hO'.2.1) w' (by
    rw [heap_put, snoc_eq]
    refine ⟨cs ++ [c'], ha.snoc (e := ⟨.sl ao2 cap2, .vecL e sz enc zs d⟩) ⟨by rw [hz]; exact hO', he⟩, ?_⟩
    simp only [List.append_assoc, List.cons_append, List.nil_append]
    exact hH'.unmid)
  rw [actOf_put] at h3
  exact h3

theorem sound_app_vec {x y : Operand} {t : TypeId} (ho : o.op = .call { callee := .builtin .append, args := #[x, y], argTypes := #[t, t] }) (hN : ∀ st', N st' → ∀ w', Rep W F st'.heap w' → K (actOf st') w') (hr : Rep W F st.heap w)
    {e : TypeId} {sz bytes : Nat} (e5 : tapp P t = some (e, sz, bytes)) {l : Nat} {ao : Option Addr} {cap : Nat} {β : Type} {encx : β → List SV} {xs : List β} {dx : β} (e3 : nth st.heap l = some ⟨.sl ao cap, .vecL e sz encx xs dx⟩) (h1 : (actOf st).eval x = .slice ao xs.length cap)
    {av : Option Addr} {m k : Nat} (h2 : (actOf st).eval y = .slice av m k) {α : Type} {enc : α → List SV} (zs : List α) (he : ∀ x, (enc x).length = sz) (hone : ∀ y, allOne (enc y) = true)
    (hz : zs.length = m) (hnews : 0 < m → ∃ a, av = some a ∧ ∀ j u, (flatV enc zs)[j]? = some u → w.cell? (a.add j) = some u) (g4 : (xs.length + m) * bytes ≤ 140737488355328) (g5 : xs.length + m ≤ 9223372036854775807)
    (es : List β) (hes : es.length = m) (hfl : denL (es.flatMap encx) = denL (zs.flatMap enc))
    (hx : ∀ ao2 cap2, xs.length + m ≤ cap2 → N (({ st with heap := setN st.heap l ⟨.sl ao2 cap2, .vecL e sz encx (xs ++ es) dx⟩ } : Sy).put o.dst (.vec l ao2 (xs.length + m) cap2))) : o.wp P (actOf st) w K Q := by
  obtain ⟨i, z, hu, hi, hz0, hzz, hsz, hby⟩ := tapp_spec e5
  obtain ⟨c, L, ⟨hO, hel⟩, hH, hput⟩ := hr.get e3
  refine wp_append_any x y t ho e z sz bytes hu (by rw [hi]; simp [hz0, hsz, hby]) hzz ao xs.length cap h1 av m k h2 (flatV encx xs) c hO hH (flatV enc zs) (by rw [length_flatV he, hz]) hnews (one_flatV hone zs) g4 g5 ?_
  intro ao2 cap2 w' c' hO' hH'
  have h3 := hN _ (hx ao2 cap2 hO'.2.1) w' (by
    rw [heap_put]
    refine hput _ c' w' ⟨?_, hel⟩ hH'
    have e1 : flatV encx (xs ++ es) = flatV encx xs ++ flatV enc zs := by
      rw [flatV_eq, flatV_eq, flatV_eq, ← hfl, List.flatMap_append, denL_eq, denL_eq, denL_eq, List.map_append]
    rw [e1, List.length_append, hes]
    exact hO')
  rw [actOf_put] at h3
  exact h3

theorem sound_xappend (S : Prop) {x y : Operand} {t : TypeId} (ho : o.op = .call { callee := .builtin .append, args := #[x, y], argTypes := #[t, t] }) (hN : ∀ st', N st' → ∀ w', Rep W F st'.heap w' → K (actOf st') w') (hr : Rep W F st.heap w)
    (hx : xappend P st o.dst t (st.eval x) (st.eval y) N S) (hS : S → o.wp P (actOf st) w K Q) : o.wp P (actOf st) w K Q := by
  have h1 := den_eval st x
  have h2 := den_eval st y
  unfold xappend at hx
  split at hx
  · rename_i l ao n cap l2 av m k e1 e2
    rw [e1] at h1; rw [e2] at h2
    split at hx
    · rename_i ao' cap' α T sz enc xs d b2' r T2 e sz' bytes e3 e4 e5
      obtain ⟨⟨rfl, rfl, rfl, rfl, rfl, rfl, g1, g2, g3, g4, g5⟩, es, hes, hr2, hx⟩ := hx
      obtain ⟨c, L, ⟨hO, hel⟩, hH, hput⟩ := hr.get e3
      have hc := hr.cells e4
      unfold tapp at e5
      split at e5
      · rename_i e hu
        split at e5
        · rename_i i hi
          split at e5
          · rename_i z hz
            split at e5
            · rename_i hzz
              simp only [Option.some.injEq, Prod.mk.injEq] at e5
              obtain ⟨rfl, rfl, rfl⟩ := e5
              rw [Nat.beq_eq] at hzz
              refine wp_append_H x y t ho e z i.size i.bytes hu (by rw [hi]; simp [hz]) hzz ao' xs.length cap' h1.symm ⟨b2', 0, none⟩ m k h2.symm (flatV enc xs) c hO hH (denL r) (by rw [length_denL, ← lenN_eq]; exact g1) g2 ?_ (oneCells_of_allOne _ g3) g4 g5 ?_
              · intro j u hu
                rw [Addr.add_mid', Nat.zero_add, hc]
                exact hu
              · intro ao2 cap2 w' c' hO' hH'
                have h3 := hN _ (hx ao2 cap2 hO'.2.1) w' (by
                  rw [heap_put]
                  refine hput _ c' w' ⟨?_, hel⟩ hH'
                  have : flatV enc (xs ++ es) = flatV enc xs ++ denL r := by
                    rw [flatV_eq, flatV_eq, ← hr2, List.flatMap_append, denL_eq, denL_eq, denL_eq, List.map_append]
                  rw [this, List.length_append, hes]
                  exact hO')
                rw [actOf_put] at h3
                exact h3
            · cases e5
          · cases e5
        · cases e5
      · cases e5
    · rename_i ao' cap' T sz n' cs b2' r T2 e sz' bytes e3 e4 e5
      obtain ⟨⟨rfl, rfl, rfl, rfl, rfl, rfl, g1, g2, g3, g4, g5⟩, hx⟩ := hx
      obtain ⟨c, L, hO, hH, hput⟩ := hr.get e3
      have hO : Own T sz ao' n cap' (denL cs) c := hO
      have hc := hr.cells e4
      obtain ⟨i, z, hu, hi, hz, hzz, hsz, hby⟩ := tapp_spec e5
      refine wp_append_H x y t ho T z sz bytes hu (by rw [hi]; simp [hz, hsz, hby]) hzz ao' n cap' h1.symm ⟨b2', 0, none⟩ m k h2.symm (denL cs) c hO hH (denL r) (by rw [length_denL, ← lenN_eq]; exact g1) g2 ?_ (oneCells_of_allOne _ g3) g4 g5 ?_
      · intro j u hu
        rw [Addr.add_mid', Nat.zero_add, hc]
        exact hu
      · intro ao2 cap2 w' c' hO' hH'
        have h3 := hN _ (hx ao2 cap2 hO'.2.1) w' (by
          rw [heap_put]
          refine hput _ c' w' ?_ hH'
          show Own T sz ao2 (n + m) cap2 (denL (appS cs r)) c'
          rw [denL_appS]; exact hO')
        rw [actOf_put] at h3
        exact h3
    · rename_i ao' cap' T sz n' cs ao3 cap3 α T3 sz3 enc xs d e sz' bytes e3 e4 e5
      obtain ⟨⟨rfl, rfl, rfl, rfl, rfl, rfl, rfl, rfl, rfl, rfl, g4, g5⟩, hx⟩ := hx
      obtain ⟨c, L, hO, hH, hput⟩ := hr.get e3
      have hO : Own T sz3 ao' 0 0 (denL cs) c := hO
      have hcs : denL cs = [] := List.eq_nil_of_length_eq_zero (by rw [hO.1]; simp)
      rw [hcs] at hO
      obtain ⟨he, hcap, hao, hc⟩ := hr.vec e4
      obtain ⟨i, z, hu, hi, hz, hzz, hsz, hby⟩ := tapp_spec e5
      refine wp_append_fresh x y t ho T z sz3 bytes hu (by rw [hi]; simp [hz, hsz, hby]) hzz ao' h1.symm ao3 xs.length k h2.symm c hO hH (flatV enc xs) (length_flatV he xs) ?_ g4 g5 ?_
      · intro hm
        refine ⟨_, hao hm, fun j u hu => ?_⟩
        have hj : j < xs.length * sz3 := by
          rw [← length_flatV he xs]; exact (List.getElem?_eq_some_iff.1 hu).1
        have hs : 0 < sz3 := Nat.pos_of_ne_zero (by rintro rfl; simp at hj)
        have hi : j / sz3 < xs.length := (Nat.div_lt_iff_lt_mul hs).2 hj
        have hf : j % sz3 < sz3 := Nat.mod_lt _ hs
        have hj' : j = j / sz3 * sz3 + j % sz3 := by rw [Nat.mul_comm]; exact (Nat.div_add_mod j sz3).symm
        rw [Addr.add_mid', hj', hc _ _ hi hf, ← flatV_get he d xs _ _ hi hf, ← hj']
        exact hu
      · intro ao2 cap2 w' c' hO' hH'
        have h3 := hN _ (hx ao2 cap2 hO'.2.1) w' (by
          rw [heap_put]
          exact hput _ c' w' ⟨hO', he⟩ hH')
        rw [actOf_put] at h3
        exact h3
    · rename_i ao' cap' α T sz enc xs d ao3 cap3 β T3 sz3 enc3 ys d3 e sz' bytes e3 e4 e5
      obtain ⟨⟨rfl, rfl, rfl, rfl, rfl, rfl, rfl, rfl, hone, g4, g5⟩, es, hes, hfl, hx⟩ := hx
      obtain ⟨he, hcap, hao, hc⟩ := hr.vec e4
      exact sound_app_vec ho hN hr e5 e3 h1.symm h2.symm ys he hone rfl (whole_cells he hao hc) g4 g5 es hes hfl hx
    · rename_i b' r T0 ao3 cap3 β T3 sz3 enc3 ys d3 e sz' bytes e3 e4 e5
      obtain ⟨⟨rfl, rfl, rfl, rfl, rfl, rfl, hone, g4, g5⟩, es, hes, hfl, hx⟩ := hx
      obtain ⟨he, hcap, hao, hc⟩ := hr.vec e4
      subst hes
      have hr' := Rep.arrD enc3 es d3 e3 (by rw [flatV_eq, hfl]) he hr
      have e3' : nth (setN st.heap l ⟨.sl (some ⟨b', 0, none⟩) es.length, .vecL T0 sz3 enc3 es d3⟩) l = some ⟨.sl (some ⟨b', 0, none⟩) es.length, .vecL T0 sz3 enc3 es d3⟩ := by
        have hlt := (List.getElem?_eq_some_iff.1 ((nth_eq _ _).symm.trans e3)).1
        rw [nth_eq, setN_eq, List.getElem?_set_self hlt]
      exact sound_app_vec (st := { st with heap := setN st.heap l ⟨.sl (some ⟨b', 0, none⟩) es.length, .vecL T0 sz3 enc3 es d3⟩ }) ho hN hr' e5 e3' h1.symm h2.symm ys he hone rfl (whole_cells he hao hc) g4 g5 ys rfl rfl (fun ao2 cap2 hc2 => by
        have h3 := hx ao2 cap2 hc2
        have e6 : ∀ v, setN (setN st.heap l ⟨.sl (some ⟨b', 0, none⟩) es.length, .vecL T0 sz3 enc3 es d3⟩) l v = setN st.heap l v := fun v => by
          rw [setN_eq, setN_eq, setN_eq, List.set_set]
        rw [e6]
        exact h3)
    · exact hS hx
  · rename_i l ao n cap l2 av k2 sz0 lo hi e1 e2
    rw [e1] at h1; rw [e2] at h2
    split at hx
    · rename_i ao' cap' α T sz enc xs d ao3 cap3 β T3 sz3 enc3 ys d3 e sz' bytes e3 e4 e5
      obtain ⟨⟨rfl, rfl, rfl, rfl, rfl, rfl, rfl, rfl, rfl, g1, g2, hone, g4, g5⟩, es, hes, hfl, hx⟩ := hx
      obtain ⟨he, hcap, hao, hc⟩ := hr.vec e4
      obtain ⟨q1, q2⟩ := part_cells he hcap hao hc g1 g2
      exact sound_app_vec ho hN hr e5 e3 h1.symm h2.symm _ he hone q1 q2 g4 g5 es hes hfl hx
    · exact hS hx
  · rename_i l2 av k2 sz0 lo hi e1 e2
    rw [e1] at h1; rw [e2] at h2
    split at hx
    · rename_i ao3 cap3 β T3 sz3 enc3 ys d3 e sz' bytes e4 e5
      obtain ⟨⟨rfl, rfl, rfl, rfl, g1, g2, g4, g5⟩, hx⟩ := hx
      obtain ⟨he, hcap, hao, hc⟩ := hr.vec e4
      obtain ⟨q1, q2⟩ := part_cells he hcap hao hc g1 g2
      exact sound_app_nil ho hN hr e5 h1.symm h2.symm _ d3 he q1 q2 g4 g5 hx
    · exact hS hx
  · rename_i l2 av m k e1 e2
    rw [e1] at h1; rw [e2] at h2
    split at hx
    · rename_i b2' r T2 e sz bytes e4 e5
      obtain ⟨⟨rfl, g1, g2, g3, g4, g5⟩, hx⟩ := hx
      have hc := hr.cells e4
      obtain ⟨i, z, hu, hi, hz, hzz, hsz, hby⟩ := tapp_spec e5
      obtain ⟨cs, ha, hH⟩ := hr
      have hH0 : H W w ([] :: (cs ++ F)) := hH.perm (by simp)
      refine wp_append_H x y t ho e z sz bytes hu (by rw [hi]; simp [hz, hsz, hby]) hzz none 0 0 h1.symm ⟨b2', 0, none⟩ m k h2.symm [] [] (Own.nil e sz) hH0 (denL r) (by rw [length_denL, ← lenN_eq]; exact g1) g2 ?_ (oneCells_of_allOne _ g3) g4 g5 ?_
      · intro j u hu
        rw [Addr.add_mid', Nat.zero_add, hc]
        exact hu
      · intro ao2 cap2 w' c' hO' hH'
        rw [Nat.zero_add, List.nil_append] at hO'
        have h3 := hN _ (hx ao2 cap2 hO'.2.1) w' (by
          rw [heap_put, snoc_eq]
          refine ⟨cs ++ [c'], ha.snoc (e := ⟨.sl ao2 cap2, .vecV e sz m r⟩) hO', ?_⟩
          simp only [List.append_assoc, List.cons_append, List.nil_append]
          exact hH'.unmid)
        rw [actOf_put] at h3
        rw [Nat.zero_add]
        exact h3
    · rename_i ao3 cap3 β T3 sz3 enc3 ys d3 e sz' bytes e4 e5
      obtain ⟨⟨rfl, rfl, rfl, g4, g5⟩, hx⟩ := hx
      obtain ⟨he, hcap, hao, hc⟩ := hr.vec e4
      exact sound_app_nil ho hN hr e5 h1.symm h2.symm ys d3 he rfl (whole_cells he hao hc) g4 g5 hx
    · rename_i ao3 cap3 β sz3 enc3 ys d3 e sz' bytes e4 e5
      obtain ⟨⟨rfl, rfl, rfl, g4, g5⟩, hx⟩ := hx
      obtain ⟨he, hcap, hao, hc⟩ := hr.ro e4
      exact sound_app_nil ho hN hr e5 h1.symm h2.symm ys d3 he rfl (whole_cells he hao hc) g4 g5 hx
    · exact hS hx
  · exact hS hx
end

/-! ### Maps -/

theorem run_setObj_map {P : Program} {w : World} {r : Nat} {es : Array MapEntry} {n : Nat} (o : Obj) (h : w.heap[r]? = some (.map es n)) : (setObj r o).run P w = .ok () { w with heap := w.heap.setIfInBounds r o } := by
  simp [setObj, Sem.run, h]

theorem H.setMap {W w : World} {L : List Ch} {r : Nat} {es : Array MapEntry} {n : Nat} (o : Obj) (h : H W w ([(r, .map es n)] :: L)) : H W { w with heap := w.heap.setIfInBounds r o } ([(r, o)] :: L) := by
  refine h.set .here (St.mk' rfl rfl rfl (by simp) (Nat.le_refl _)) fun k => ?_
  have hlt : r < w.heap.size := (Array.getElem?_eq_some_iff.1 (h.heap .here)).1
  by_cases hk : k = r
  · subst hk; simp [hlt]
  · rw [if_neg hk]; simp [Array.getElem?_setIfInBounds_ne (Ne.symm hk)]

theorem Stamped.nil (clock : Nat) : Stamped [] clock := ⟨List.nodup_nil, fun _ h => absurd h List.not_mem_nil⟩
theorem Stamped.push {ents : List MapEntry} {clock : Nat} (h : Stamped ents clock) {k v : Value} : Stamped (ents ++ [⟨k, v, clock⟩]) (clock + 1) := by
  refine ⟨?_, fun e he => ?_⟩
  · rw [List.map_append, List.nodup_append]
    refine ⟨h.1, by simp, fun a ha b hb => ?_⟩
    obtain ⟨e, he, rfl⟩ := List.mem_map.1 ha
    simp only [List.map_cons, List.map_nil, List.mem_singleton] at hb
    subst hb
    have := h.2 e he
    omega
  · rcases List.mem_append.1 he with he | he
    · have := h.2 e he; omega
    · simp only [List.mem_singleton] at he
      subst he; exact Nat.lt_succ_self _
theorem Stamped.of_born {ents ents' : List MapEntry} {clock : Nat} (h : Stamped ents clock) (hb : (ents'.map (·.born)).Sublist (ents.map (·.born))) : Stamped ents' clock := by
  refine ⟨hb.nodup h.1, fun e he => ?_⟩
  have := hb.subset (List.mem_map.2 ⟨e, he, rfl⟩)
  obtain ⟨e', he', e1⟩ := List.mem_map.1 this
  have := h.2 e' he'
  omega
theorem born_modify (f : MapEntry → MapEntry) (hf : ∀ e, (f e).born = e.born) : ∀ (ents : List MapEntry) (j : Nat), (ents.modify j f).map (·.born) = ents.map (·.born)
  | [], j => by cases j <;> rfl
  | e :: ents, 0 => by simp [List.modify_zero_cons, hf]
  | e :: ents, j + 1 => by simp [List.modify_succ_cons, born_modify f hf ents j]
theorem Stamped.modify {ents : List MapEntry} {clock : Nat} (h : Stamped ents clock) (j : Nat) (f : MapEntry → MapEntry) (hf : ∀ e, (f e).born = e.born) : Stamped (ents.modify j f) clock :=
  h.of_born (by rw [born_modify f hf]; exact List.Sublist.refl _)
theorem Stamped.erase {ents : List MapEntry} {clock : Nat} (h : Stamped ents clock) (j : Nat) : Stamped (ents.eraseIdx j) clock :=
  h.of_born ((List.eraseIdx_sublist _ _).map _)
theorem mget_mset {β : Type} {k : Key} {u : β} (hk : keyEq k k = true) : ∀ es : List (Key × β), mget (mset es k u) k = some u
  | [] => by simp [mset, mget, hk]
  | (k', v') :: es => by
    simp only [mset]
    cases hq : keyEq k k' <;> simp only [mget, hq, hk]
    exact mget_mset hk es

theorem bytes_beq (a b : ByteArray) : (a == b) = true ↔ a = b := by
  obtain ⟨x⟩ := a
  obtain ⟨y⟩ := b
  show (x == y) = true ↔ _
  rw [beq_iff_eq]
  exact ⟨fun h => by rw [h], fun h => by cases h; rfl⟩

theorem kvsEq_self : ∀ a : List KV, kvsEq a a = true
  | [] => rfl
  | x :: a => by
    simp only [kvsEq, kvsEq_self a, Bool.and_true]
    cases x
    · simp [kvEq]
    · simp only [kvEq]; exact (bytes_beq _ _).2 rfl
theorem kvsEq_eq : ∀ {a b : List KV}, kvKinds a = kvKinds b → kvsEq a b = true → a = b
  | [], [], _, _ => rfl
  | [], _ :: _, h, _ => by cases h
  | _ :: _, [], h, _ => by cases h
  | x :: a, y :: b, h, he => by
    simp only [kvKinds, List.cons.injEq] at h
    simp only [kvsEq, Bool.and_eq_true] at he
    rw [kvsEq_eq h.2 he.2]
    have : x = y := by
      obtain ⟨h1, _⟩ := h
      obtain ⟨he, _⟩ := he
      cases x <;> cases y <;> simp only [kvKind, kvEq, beq_iff_eq, bytes_beq, reduceCtorEq, Option.some.injEq, Bool.false_eq_true] at h1 he
      · subst h1; subst he; rfl
      · subst he; rfl
    rw [this]
theorem keyEq_self (k : Key) : keyEq k k = true := by
  cases k
  · simp [keyEq]
  · simp only [keyEq]; exact (bytes_beq _ _).2 rfl
  · exact kvsEq_self _
theorem keyEq_den {kd : Option KK} {k k' : Key} (h1 : keyKind k = kd) (h2 : keyKind k' = kd) (h : keyEq k k' = true) : den k.sv = den k'.sv := by
  cases k <;> cases k' <;> simp only [keyKind, keyEq, beq_iff_eq, bytes_beq, reduceCtorEq, Bool.false_eq_true] at h1 h2 h
  · subst h
    rw [← h1] at h2
    cases h2; rfl
  · subst h; rfl
  · rw [← h1] at h2
    simp only [Option.some.injEq, KK.tup.injEq] at h2
    rw [kvsEq_eq h2.symm h]

theorem find_set {β : Type} {kd : Option KK} (enc : β → SV) {k : Key} (h1 : keyKind k = kd) (u : β) : ∀ (ents : List MapEntry) (es : List (Key × β)) (i : Nat),
    (∀ e ∈ es, keyKind e.1 = kd) → ents.map (fun e => (e.key, e.val)) = es.map (fun e => (den e.1.sv, den (enc e.2))) →
    (scanK k es ents i = none ∧ mset es k u = es ++ [(k, u)] ∧ mdel es k = es) ∨
    ∃ j v0 old, scanK k es ents i = some (i + j, v0) ∧ (ents[j]?).map (·.key) = some old ∧ old = den k.sv ∧
      (ents.modify j fun e => { e with key := den k.sv, val := den (enc u) }).map (fun e => (e.key, e.val)) = (mset es k u).map (fun e => (den e.1.sv, den (enc e.2))) ∧
      (ents.eraseIdx j).map (fun e => (e.key, e.val)) = (mdel es k).map (fun e => (den e.1.sv, den (enc e.2)))
  | [], es, i, _, he => by
    have : es = [] := by cases es <;> simp_all
    subst this
    exact .inl ⟨rfl, rfl, rfl⟩
  | e :: ents, es, i, hk, he => by
    cases es with
    | nil => simp at he
    | cons e' es =>
      obtain ⟨k', v'⟩ := e'
      simp only [List.map_cons, List.cons.injEq, Prod.mk.injEq] at he
      obtain ⟨⟨ek, ev⟩, he⟩ := he
      have hkk := fun h => keyEq_den h1 (hk (k', v') List.mem_cons_self) h
      simp only [scanK, mset, mdel]
      cases hq : keyEq k k' with
      | true =>
        refine .inr ⟨0, e.val, e.key, by simp, rfl, by rw [ek]; exact (hkk hq).symm, ?_, ?_⟩
        · simp only [List.modify_zero_cons, List.map_cons, he]
        · simp only [List.eraseIdx_zero, List.tail_cons, he]
      | false =>
        rcases find_set enc h1 u ents es (i + 1) (fun e h => hk e (List.mem_cons_of_mem _ h)) he with ⟨f1, f2, f3⟩ | ⟨j, v0, old, f1, f2, f3, f4, f5⟩
        · exact .inl ⟨f1, by rw [f2]; rfl, by rw [f3]⟩
        · refine .inr ⟨j + 1, v0, old, by rw [f1, show i + 1 + j = i + (j + 1) by omega], by simpa using f2, f3, ?_, ?_⟩
          · simp only [List.modify_succ_cons, List.map_cons, f4, ek, ev]
          · simp only [List.eraseIdx_cons_succ, List.map_cons, f5, ek, ev]

theorem find_delS {β : Type} (enc : β → SV) {k : Key} : ∀ (ents : List MapEntry) (es : List (Key × (Nat × β))) (i : Nat), ents.map (fun e => (e.key, e.born, e.val)) = es.map (fun e => (den e.1.sv, e.2.1, den (enc e.2.2))) →
    (scanK k es ents i = none ∧ mdel es k = es) ∨ ∃ j v0, scanK k es ents i = some (i + j, v0) ∧ j < ents.length ∧ (ents.eraseIdx j).map (fun e => (e.key, e.born, e.val)) = (mdel es k).map (fun e => (den e.1.sv, e.2.1, den (enc e.2.2)))
  | [], es, i, he => by
    have : es = [] := by cases es <;> simp_all
    subst this
    exact .inl ⟨rfl, rfl⟩
  | e :: ents, es, i, he => by
    cases es with
    | nil => simp at he
    | cons e' es =>
      obtain ⟨k', v'⟩ := e'
      simp only [List.map_cons, List.cons.injEq, Prod.mk.injEq] at he
      obtain ⟨⟨ek, eb, ev⟩, he⟩ := he
      simp only [scanK, mdel]
      cases hq : keyEq k k' with
      | true => exact .inr ⟨0, e.val, by simp, by simp, by simp only [List.eraseIdx_zero, List.tail_cons, he]⟩
      | false =>
        rcases find_delS enc ents es (i + 1) he with ⟨f1, f2⟩ | ⟨j, v0, f1, f2, f3⟩
        · exact .inl ⟨f1, by simp only [f2]⟩
        · exact .inr ⟨j + 1, v0, by rw [f1, show i + 1 + j = i + (j + 1) by omega], by simpa using f2, by simp only [List.eraseIdx_cons_succ, List.map_cons, f3, ek, eb, ev]⟩
theorem mset_kind {β : Type} {kd : Option KK} {k : Key} (h1 : keyKind k = kd) (u : β) : ∀ (es : List (Key × β)), (∀ e ∈ es, keyKind e.1 = kd) → ∀ e ∈ mset es k u, keyKind e.1 = kd
  | [], _, e, he => by
    simp only [mset, List.mem_singleton] at he
    subst he; exact h1
  | (k', v') :: es, hk, e, he => by
    simp only [mset] at he
    split at he
    · rcases List.mem_cons.1 he with rfl | he
      · exact h1
      · exact hk e (List.mem_cons_of_mem _ he)
    · rcases List.mem_cons.1 he with rfl | he
      · exact hk _ List.mem_cons_self
      · exact mset_kind h1 u es (fun e h => hk e (List.mem_cons_of_mem _ h)) e he
theorem mdel_kind {β : Type} {kd : Option KK} {k : Key} : ∀ (es : List (Key × β)), (∀ e ∈ es, keyKind e.1 = kd) → ∀ e ∈ mdel es k, keyKind e.1 = kd
  | [], _, e, he => by cases he
  | (k', v') :: es, hk, e, he => by
    simp only [mdel] at he
    split at he
    · exact hk e (List.mem_cons_of_mem _ he)
    · rcases List.mem_cons.1 he with rfl | he
      · exact hk _ List.mem_cons_self
      · exact mdel_kind es (fun e h => hk e (List.mem_cons_of_mem _ h)) e he

def xmapUpdate (P : Program) (st : Sy) (t : TypeId) (x i v : SV) (N : Sy → Prop) (S : Prop) : Prop :=
  match x, keyOf i, tkey P t with
  | .map l r, some k, some (kd, _) => match nth st.heap l with
    | some ⟨.blk r', .mapL kd' enc es⟩ => (r' = r ∧ keyKind k = kd ∧ kd' = kd) ∧ ∃ u, den (enc u) = den v ∧ N { st with heap := setN st.heap l ⟨.blk r', .mapL kd' enc (mset es k u)⟩ }
    | some ⟨.blk r', .map1 kd' enc es _ _⟩ => (r' = r ∧ keyKind k = kd ∧ kd' = kd) ∧ ∃ u, den (enc u) = den v ∧ N { st with heap := setN st.heap l ⟨.blk r', .map1 kd' enc (mset es k u) k (some v)⟩ }
    | some ⟨.blk r', .mapV kd' es⟩ => (r' = r ∧ keyKind k = kd ∧ kd' = kd) ∧ N { st with heap := setN st.heap l ⟨.blk r', .mapV kd' (mset es k v)⟩ }
    | _ => S
  | _, _, _ => S

def xdelete (P : Program) (st : Sy) (dst : Option Tmp) (t : TypeId) (x i : SV) (N : Sy → Prop) (S : Prop) : Prop :=
  match x, keyOf i, tkey P t with
  | .map l r, some k, some (kd, _) => match nth st.heap l with
    | some ⟨.blk r', .mapL kd' enc es⟩ => (r' = r ∧ keyKind k = kd ∧ kd' = kd) ∧ N (({ st with heap := setN st.heap l ⟨.blk r', .mapL kd' enc (mdel es k)⟩ } : Sy).put dst (.raw undef))
    | some ⟨.blk r', .map1 kd' enc es _ _⟩ => (r' = r ∧ keyKind k = kd ∧ kd' = kd) ∧ N (({ st with heap := setN st.heap l ⟨.blk r', .mapL kd' enc (mdel es k)⟩ } : Sy).put dst (.raw undef))
    | some ⟨.blk r', .mapS kd' enc es clk⟩ => (r' = r ∧ keyKind k = kd ∧ kd' = kd) ∧ N (({ st with heap := setN st.heap l ⟨.blk r', .mapS kd' enc (mdel es k) clk⟩ } : Sy).put dst (.raw undef))
    | some ⟨.blk r', .mapV kd' es⟩ => (r' = r ∧ keyKind k = kd ∧ kd' = kd) ∧ N (({ st with heap := setN st.heap l ⟨.blk r', .mapV kd' (mdel es k)⟩ } : Sy).put dst (.raw undef))
    | _ => S
  | _, _, _ => S

def xclear (P : Program) (st : Sy) (dst : Option Tmp) (t : TypeId) (x : SV) (N : Sy → Prop) (S : Prop) : Prop :=
  match x, tkey P t with
  | .map l r, some _ => match nth st.heap l with
    | some ⟨.blk r', .mapL kd' enc es⟩ => r' = r ∧ N (({ st with heap := setN st.heap l ⟨.blk r', .mapL kd' enc []⟩ } : Sy).put dst (.raw undef))
    | some ⟨.blk r', .mapV kd' es⟩ => r' = r ∧ N (({ st with heap := setN st.heap l ⟨.blk r', .mapV kd' []⟩ } : Sy).put dst (.raw undef))
    | _ => S
  | _, _ => S

def xmakeMap (P : Program) (st : Sy) (dst : Option Tmp) (t : TypeId) (N : Sy → Prop) : Prop :=
  match tkey P t with
  | some (kd, _) => ∀ b, N (({ st with heap := snoc st.heap ⟨.blk b, .mapV kd []⟩ } : Sy).put dst (.map (lenN st.heap) b))
  | none => ∀ b, N (({ st with heap := snoc st.heap ⟨.blk b, .raw (.map #[] 0)⟩ } : Sy).put dst (.map (lenN st.heap) b))

def xclearS (P : Program) (st : Sy) (dst : Option Tmp) (t : TypeId) (l : Nat) (ao : Option Addr) (cap sz lo hi : Nat) (N : Sy → Prop) (S : Prop) : Prop :=
  match P.underlying t with
  | some (.slice e) => match tzero P e, nth st.heap l with
    | some cs, some ⟨.sl ao' cap', .vecL T sz' enc xs d⟩ => (ao' = ao ∧ cap' = cap ∧ sz' = sz ∧ lenN cs = sz ∧ allOne cs = true ∧ lo ≤ hi ∧ hi ≤ xs.length) ∧
        N (({ st with heap := setN st.heap l ⟨.sl ao' cap', .vecL T sz' enc (xs.take lo) d⟩ } : Sy).put dst (.raw undef))
    | _, _ => S
  | _ => S

def copyL {α : Type} (xs : List α) (lo lo2 k : Nat) : List α := xs.take lo ++ ((xs.drop lo2).take k ++ xs.drop (lo + k))
def xcopy (P : Program) (st : Sy) (dst : Option Tmp) (t : TypeId) (x y : SV) (N : Sy → Prop) (S : Prop) : Prop :=
  match x, y with
  | .sub l ao cap sz lo hi, .sub l2 ao2 cap2 sz2 lo2 hi2 => match tapp P t, nth st.heap l with
    | some (_, sz', _), some ⟨.sl ao' cap', .vecL T sz0 enc xs d⟩ => (Nat.beq l2 l = true ∧ ao = ao' ∧ cap = cap' ∧ ao2 = ao' ∧ cap2 = cap' ∧ sz2 = sz0 ∧ sz = sz0 ∧ sz' = sz0 ∧ (∀ y, allOne (enc y) = true) ∧ lo ≤ hi ∧ hi ≤ xs.length ∧ lo2 ≤ hi2 ∧ hi2 ≤ xs.length) ∧
        N (({ st with heap := setN st.heap l ⟨.sl ao' cap', .vecL T sz0 enc (copyL xs lo lo2 (Nat.min (hi2 - lo2) (hi - lo))) d⟩ } : Sy).put dst (.int .i64 ((Nat.min (hi2 - lo2) (hi - lo) : Nat) : Int)))
    | _, _ => S
  | _, _ => S

def allKV : List (Option IntKind) → (List KV → Prop) → Prop
  | [], Φ => Φ []
  | some k :: l, Φ => ∀ n : Int, allKV l fun r => Φ (.i k n :: r)
  | none :: l, Φ => ∀ s : ByteArray, allKV l fun r => Φ (.s s :: r)
def exKV : List (Option IntKind) → (List KV → Prop) → Prop
  | [], Φ => Φ []
  | some k :: l, Φ => ∃ n : Int, exKV l fun r => Φ (.i k n :: r)
  | none :: l, Φ => ∃ s : ByteArray, exKV l fun r => Φ (.s s :: r)
theorem allKV_at : ∀ (a : List KV) (Φ : List KV → Prop), allKV (kvKinds a) Φ → Φ a
  | [], Φ, h => h
  | .i k n :: a, Φ, h => allKV_at a _ (h n)
  | .s b :: a, Φ, h => allKV_at a _ (h b)
theorem exKV_at : ∀ (l : List (Option IntKind)) (Φ : List KV → Prop), exKV l Φ → ∃ a, kvKinds a = l ∧ Φ a
  | [], Φ, h => ⟨[], rfl, h⟩
  | some k :: l, Φ, ⟨n, h⟩ => by
    obtain ⟨a, h1, h2⟩ := exKV_at l _ h
    exact ⟨.i k n :: a, by simp [kvKinds, kvKind, h1], h2⟩
  | none :: l, Φ, ⟨n, h⟩ => by
    obtain ⟨a, h1, h2⟩ := exKV_at l _ h
    exact ⟨.s n :: a, by simp [kvKinds, kvKind, h1], h2⟩
def xrange (P : Program) (st : Sy) (dst : Option Tmp) (t : TypeId) (x : SV) (N : Sy → Prop) (S : Prop) : Prop :=
  match x, tkey P t with
  | .map l r, some (kd, _) => match nth st.heap l with
    | some ⟨.blk r', .mapL (β := β) kd' enc es⟩ => r' = r ∧ ∀ (es' : List (Key × (Nat × β))) (clk b : Nat), es'.map (fun e => (e.1, e.2.2)) = es → (es'.map (·.2.1)).Nodup →
        N (({ st with heap := snoc (setN st.heap l ⟨.blk r', .mapS kd' enc es' clk⟩) ⟨.blk b, .iter l r clk []⟩ } : Sy).put dst (.ptr (lenN st.heap) b 0))
    | _ => S
  | _, _ => S
def xnext (P : Program) (st : Sy) (dst : Option Tmp) (x : SV) (N : Sy → Prop) (S : Prop) : Prop :=
  match x with
  | .ptr l b 0 => match nth st.heap l with
    | some ⟨.blk b', .iter lm m clk seen⟩ => match nth st.heap lm with
      | some ⟨.blk m', .mapS (β := β) kd enc es clk'⟩ => (b' = b ∧ m' = m ∧ clk' = clk) ∧ (match kd with
          | some (.tup lk) => allKV lk fun ks => ∀ born (v : β), (Key.g ks, born, v) ∈ es → born ∉ seen → N (({ st with heap := setN st.heap l ⟨.blk b', .iter lm m clk (snoc seen born)⟩ } : Sy).put dst (.tuple [.bool true, .agg (kvSvs ks), enc v]))
          | some (.ofInt kk) => ∀ n born (v : β), (Key.i kk n, born, v) ∈ es → born ∉ seen → N (({ st with heap := setN st.heap l ⟨.blk b', .iter lm m clk (snoc seen born)⟩ } : Sy).put dst (.tuple [.bool true, .int kk n, enc v]))
          | none => ∀ s born (v : β), (Key.s s, born, v) ∈ es → born ∉ seen → N (({ st with heap := setN st.heap l ⟨.blk b', .iter lm m clk (snoc seen born)⟩ } : Sy).put dst (.tuple [.bool true, .str s, enc v])))
          ∧ ((∀ e ∈ es, e.2.1 ∈ seen) → N (st.put dst (.tuple [.bool false])))
      | _ => S
    | _ => S
  | _ => S
def xentry (P : Program) (st : Sy) (dst : Option Tmp) (x : SV) (N : Sy → Prop) (S : Prop) : Prop :=
  match x with
  | .ptr l b 0 => match nth st.heap l with
    | some ⟨.blk b', .iter lm m clk seen⟩ => match nth st.heap lm with
      | some ⟨.blk m', .mapS (β := β) kd enc es clk'⟩ => (b' = b ∧ m' = m ∧ clk' = clk) ∧ (match kd with
          | some (.tup lk) => exKV lk fun ks => ∃ born, ∃ (v : β) (seen0 : List Nat), (Key.g ks, born, v) ∈ es ∧ seen = snoc seen0 born ∧ N (st.put dst (.tuple [.agg (kvSvs ks), enc v]))
          | some (.ofInt kk) => ∃ n born, ∃ (v : β) (seen0 : List Nat), (Key.i kk n, born, v) ∈ es ∧ seen = snoc seen0 born ∧ N (st.put dst (.tuple [.int kk n, enc v]))
          | none => ∃ s born, ∃ (v : β) (seen0 : List Nat), (Key.s s, born, v) ∈ es ∧ seen = snoc seen0 born ∧ N (st.put dst (.tuple [.str s, enc v])))
      | _ => S
    | _ => S
  | _ => S

section
variable {P : Program} {W w : World} {F : List Ch} {st : Sy} {o : Oper} {Q : Exit → Act → World → Prop} {K : Act → World → Prop} {N : Sy → Prop}

theorem sameBits_kv (n : Nat) (x : KV) : Instr.sameBits n (den x.sv) (den x.sv) = true := by
  cases x
  · cases n <;> simp [KV.sv, den, Instr.sameBits]
  · cases n <;> (simp only [KV.sv, den, Instr.sameBits]; exact (bytes_beq _ _).2 rfl)
theorem sameBits_kvs (n : Nat) : ∀ a : List KV, (((denL (kvSvs a)).zip (denL (kvSvs a))).all fun x => Instr.sameBits n x.1 x.2) = true
  | [] => rfl
  | x :: a => by
    simp only [kvSvs, denL, List.zip_cons_cons, List.all_cons, sameBits_kv, sameBits_kvs n a, Bool.and_self]
theorem run_keyThatStays {kd : Option KK} {k : Key} (v : Value) (h : v = den k.sv) (hk : keyKind k = kd) : (Instr.keyThatStays v (den k.sv)).run P w = .ok (den k.sv) w := by
  subst h
  have : Instr.sameBits 10000 (den k.sv) (den k.sv) = true := by
    cases k
    · simp [Key.sv, den, Instr.sameBits]
    · simp only [Key.sv, den, Instr.sameBits]; exact (bytes_beq _ _).2 rfl
    · rename_i a
      have := sameBits_kvs 9999 a
      have e : Instr.sameBits 10000 (den (Key.g a).sv) (den (Key.g a).sv) = Instr.sameBits (9999 + 1) (.agg (denL (kvSvs a)).toArray) (.agg (denL (kvSvs a)).toArray) := rfl
      rw [e, Instr.sameBits]
      simpa using this
  simp [Instr.keyThatStays, this]

theorem sound_xmapUpdate (S : Prop) (t : TypeId) (x i y : Operand) (ho : o.op = .mapUpdate t x i y) (hd : o.dst = none) (hN : ∀ st', N st' → ∀ w', Rep W F st'.heap w' → K (actOf st') w') (hr : Rep W F st.heap w)
    (hx : xmapUpdate P st t (st.eval x) (st.eval i) (st.eval y) N S) (hS : S → o.wp P (actOf st) w K Q) : o.wp P (actOf st) w K Q := by
  have h1 := den_eval st x
  have h2 := den_eval st i
  have h3 := den_eval st y
  unfold xmapUpdate at hx
  split at hx
  · rename_i l r k kd e e1 e2 e3
    rw [e1] at h1
    rw [keyOf_sv e2] at h2
    obtain ⟨kt, hu, hkt⟩ := tkey_spec e3
    split at hx
    · rename_i r' β kd' enc es e4
      obtain ⟨⟨rfl, hk, rfl⟩, u, hu2, hx⟩ := hx
      rw [← hu2] at h3
      obtain ⟨c, L, ⟨hks, ents, clock, rfl, hst, he⟩, hH, hput⟩ := hr.get e4
      have hh := hH.heap .here
      have hck : (Instr.checkKey false 10000 kt (den k.sv)).run P w = .ok () w := checkKey_ok hkt hk _
      have fin : ∀ (ents2 : List MapEntry) (clock2 : Nat), Stamped ents2 clock2 → ents2.map (fun e => (e.key, e.val)) = (mset es k u).map (fun e => (den e.1.sv, den (enc e.2))) →
          (Instr.mapUpdate t (.map (some r')) (den k.sv) (den (enc u))).run P w = .ok () { w with heap := w.heap.setIfInBounds r' (.map ents2.toArray clock2) } → o.wp P (actOf st) w K Q := by
        intro ents2 clock2 hst2 hm hrun
        have hr2 := hput ⟨.blk r', .mapL kd' enc (mset es k u)⟩ [(r', .map ents2.toArray clock2)] _ ⟨mset_kind hk u es hks, ents2, clock2, rfl, hst2, hm⟩ (hH.setMap _)
        have h5 := hN _ hx _ hr2
        unfold Oper.wp
        have hex : (execOp (actOf st).eval o).run P w = .ok .skip { w with heap := w.heap.setIfInBounds r' (.map ents2.toArray clock2) } := by
          have hm1 : (actOf st).eval x = .map (some r') := h1.symm
          simp only [execOp, ho, Sem.run_bind, hm1, ← h2, ← h3, hrun, Result.andThen_ok, Sem.run_pure]
        rw [hex]
        show K ((actOf st).put o.dst undef) _
        rw [hd]
        exact h5
      rcases find_set enc hk u ents es 0 hks he with ⟨f1, f2, _⟩ | ⟨j, v0, old, f1, f2, f3, f4, _⟩
      · refine fin (ents ++ [⟨den k.sv, den (enc u), clock⟩]) (clock + 1) hst.push (by rw [f2]; simp [he]) ?_
        unfold Instr.mapUpdate
        simp only [Sem.run_bind, underlying, run_program, Result.andThen_ok, hu, Sem.run_pure, run_getObj_at hh, hck, (run_findKey (w := w) hkt hk hks he).trans (congrArg (fun r => Result.ok r w) f1)]
        simp only [List.push_toArray, run_setObj_map _ hh]
      · rw [Nat.zero_add] at f1
        refine fin (ents.modify j fun e => { e with key := den k.sv, val := den (enc u) }) clock (hst.modify j _ fun _ => rfl) f4 ?_
        have hold : (((ents.toArray)[j]?).map (·.key)).getD (den k.sv) = den k.sv := by
          rw [List.getElem?_toArray, f2]; exact f3
        unfold Instr.mapUpdate
        simp only [Sem.run_bind, underlying, run_program, Result.andThen_ok, hu, Sem.run_pure, run_getObj_at hh, hck, (run_findKey (w := w) hkt hk hks he).trans (congrArg (fun r => Result.ok r w) f1), run_keyThatStays (w := w) _ hold hk]
        simp only [run_setObj_map _ hh, List.modify_toArray]
    · rename_i r' β kd' enc es k0 r0 e4
      obtain ⟨⟨rfl, hk, rfl⟩, u, hu2, hx⟩ := hx
      rw [← hu2] at h3
      obtain ⟨c, L, ⟨_, hks, ents, clock, rfl, hst, he⟩, hH, hput⟩ := hr.get e4
      have hh := hH.heap .here
      have hck : (Instr.checkKey false 10000 kt (den k.sv)).run P w = .ok () w := checkKey_ok hkt hk _
      have fin : ∀ (ents2 : List MapEntry) (clock2 : Nat), Stamped ents2 clock2 → ents2.map (fun e => (e.key, e.val)) = (mset es k u).map (fun e => (den e.1.sv, den (enc e.2))) →
          (Instr.mapUpdate t (.map (some r')) (den k.sv) (den (enc u))).run P w = .ok () { w with heap := w.heap.setIfInBounds r' (.map ents2.toArray clock2) } → o.wp P (actOf st) w K Q := by
        intro ents2 clock2 hst2 hm hrun
        have hr2 := hput ⟨.blk r', .map1 kd' enc (mset es k u) k (some (st.eval y))⟩ [(r', .map ents2.toArray clock2)] _ ⟨⟨hk, by rw [mget_mset (keyEq_self k)]; exact congrArg some hu2⟩, mset_kind hk u es hks, ents2, clock2, rfl, hst2, hm⟩ (hH.setMap _)
        have h5 := hN _ hx _ hr2
        unfold Oper.wp
        have hex : (execOp (actOf st).eval o).run P w = .ok .skip { w with heap := w.heap.setIfInBounds r' (.map ents2.toArray clock2) } := by
          have hm1 : (actOf st).eval x = .map (some r') := h1.symm
          simp only [execOp, ho, Sem.run_bind, hm1, ← h2, ← h3, hrun, Result.andThen_ok, Sem.run_pure]
        rw [hex]
        show K ((actOf st).put o.dst undef) _
        rw [hd]
        exact h5
      rcases find_set enc hk u ents es 0 hks he with ⟨f1, f2, _⟩ | ⟨j, v0, old, f1, f2, f3, f4, _⟩
      · refine fin (ents ++ [⟨den k.sv, den (enc u), clock⟩]) (clock + 1) hst.push (by rw [f2]; simp [he]) ?_
        unfold Instr.mapUpdate
        simp only [Sem.run_bind, underlying, run_program, Result.andThen_ok, hu, Sem.run_pure, run_getObj_at hh, hck, (run_findKey (w := w) hkt hk hks he).trans (congrArg (fun r => Result.ok r w) f1)]
        simp only [List.push_toArray, run_setObj_map _ hh]
      · rw [Nat.zero_add] at f1
        refine fin (ents.modify j fun e => { e with key := den k.sv, val := den (enc u) }) clock (hst.modify j _ fun _ => rfl) f4 ?_
        have hold : (((ents.toArray)[j]?).map (·.key)).getD (den k.sv) = den k.sv := by
          rw [List.getElem?_toArray, f2]; exact f3
        unfold Instr.mapUpdate
        simp only [Sem.run_bind, underlying, run_program, Result.andThen_ok, hu, Sem.run_pure, run_getObj_at hh, hck, (run_findKey (w := w) hkt hk hks he).trans (congrArg (fun r => Result.ok r w) f1), run_keyThatStays (w := w) _ hold hk]
        simp only [run_setObj_map _ hh, List.modify_toArray]
    · rename_i r' kd' es e4
      obtain ⟨⟨rfl, hk, rfl⟩, hx⟩ := hx
      obtain ⟨c, L, ⟨hks, ents, clock, rfl, hst, he⟩, hH, hput⟩ := hr.get e4
      have hh := hH.heap .here
      have hck : (Instr.checkKey false 10000 kt (den k.sv)).run P w = .ok () w := checkKey_ok hkt hk _
      have fin : ∀ (ents2 : List MapEntry) (clock2 : Nat), Stamped ents2 clock2 → ents2.map (fun e => (e.key, e.val)) = (mset es k (st.eval y)).map (fun e => (den e.1.sv, den e.2)) →
          (Instr.mapUpdate t (.map (some r')) (den k.sv) (den (st.eval y))).run P w = .ok () { w with heap := w.heap.setIfInBounds r' (.map ents2.toArray clock2) } → o.wp P (actOf st) w K Q := by
        intro ents2 clock2 hst2 hm hrun
        have hr2 := hput ⟨.blk r', .mapV kd' (mset es k (st.eval y))⟩ [(r', .map ents2.toArray clock2)] _ ⟨mset_kind hk (st.eval y) es hks, ents2, clock2, rfl, hst2, hm⟩ (hH.setMap _)
        have h5 := hN _ hx _ hr2
        unfold Oper.wp
        have hex : (execOp (actOf st).eval o).run P w = .ok .skip { w with heap := w.heap.setIfInBounds r' (.map ents2.toArray clock2) } := by
          have hm1 : (actOf st).eval x = .map (some r') := h1.symm
          simp only [execOp, ho, Sem.run_bind, hm1, ← h2, ← h3, hrun, Result.andThen_ok, Sem.run_pure]
        rw [hex]
        show K ((actOf st).put o.dst undef) _
        rw [hd]
        exact h5
      rcases find_set (fun v : SV => v) hk (st.eval y) ents es 0 hks he with ⟨f1, f2, _⟩ | ⟨j, v0, old, f1, f2, f3, f4, _⟩
      · refine fin (ents ++ [⟨den k.sv, den (st.eval y), clock⟩]) (clock + 1) hst.push (by rw [f2]; simp [he]) ?_
        unfold Instr.mapUpdate
        simp only [Sem.run_bind, underlying, run_program, Result.andThen_ok, hu, Sem.run_pure, run_getObj_at hh, hck, (run_findKey (w := w) (enc := fun v : SV => v) hkt hk hks he).trans (congrArg (fun r => Result.ok r w) f1)]
        simp only [List.push_toArray, run_setObj_map _ hh]
      · rw [Nat.zero_add] at f1
        refine fin (ents.modify j fun e => { e with key := den k.sv, val := den (st.eval y) }) clock (hst.modify j _ fun _ => rfl) f4 ?_
        have hold : (((ents.toArray)[j]?).map (·.key)).getD (den k.sv) = den k.sv := by
          rw [List.getElem?_toArray, f2]; exact f3
        unfold Instr.mapUpdate
        simp only [Sem.run_bind, underlying, run_program, Result.andThen_ok, hu, Sem.run_pure, run_getObj_at hh, hck, (run_findKey (w := w) (enc := fun v : SV => v) hkt hk hks he).trans (congrArg (fun r => Result.ok r w) f1), run_keyThatStays (w := w) _ hold hk]
        simp only [run_setObj_map _ hh, List.modify_toArray]
    · exact hS hx
  · exact hS hx
theorem sound_insert (S : Prop) (t : TypeId) (x i y : Operand) (ho : o.op = .insert t x i y) (hd : o.dst = none) (hN : ∀ st', N st' → ∀ w', Rep W F st'.heap w' → K (actOf st') w') (hr : Rep W F st.heap w)
    (hx : xmapUpdate P st t (st.eval x) (st.eval i) (st.eval y) N S) (hS : S → o.wp P (actOf st) w K Q) : o.wp P (actOf st) w K Q := by
  have e : ∀ (K : Act → World → Prop) a w, o.wp P a w K Q = ({ o with op := .mapUpdate t x i y } : Oper).wp P a w K Q := fun K a w => by
    unfold Oper.wp
    have : execOp a.eval o = execOp a.eval { o with op := .mapUpdate t x i y } := by unfold execOp; rw [ho]
    rw [this]
    cases (execOp a.eval { o with op := Op.mapUpdate t x i y }).run P w with
    | ok n w' => cases n <;> rfl
    | halt h w' => cases h <;> rfl
  rw [e]
  exact sound_xmapUpdate (o := { o with op := .mapUpdate t x i y }) S t x i y rfl hd hN hr hx (fun h => by rw [← e]; exact hS h)

theorem sound_xdelete (S : Prop) (t : TypeId) (ts1 : TypeId) (x i : Operand) (ho : o.op = .call ⟨.builtin .delete, #[x, i], #[t, ts1]⟩) (hN : ∀ st', N st' → ∀ w', Rep W F st'.heap w' → K (actOf st') w') (hr : Rep W F st.heap w)
    (hx : xdelete P st o.dst t (st.eval x) (st.eval i) N S) (hS : S → o.wp P (actOf st) w K Q) : o.wp P (actOf st) w K Q := by
  have h1 := den_eval st x
  have h2 := den_eval st i
  unfold xdelete at hx
  split at hx
  · rename_i l r k kd e e1 e2 e3
    rw [e1] at h1
    rw [keyOf_sv e2] at h2
    obtain ⟨kt, hu, hkt⟩ := tkey_spec e3
    split at hx
    · rename_i r' β kd' enc es e4
      obtain ⟨⟨rfl, hk, rfl⟩, hx⟩ := hx
      obtain ⟨c, L, ⟨hks, ents, clock, rfl, hst, he⟩, hH, hput⟩ := hr.get e4
      have hh := hH.heap .here
      have hck : ∀ b, (Instr.checkKey b 10000 kt (den k.sv)).run P w = .ok () w := fun b => checkKey_ok hkt hk b
      have fin : ∀ (ents2 : List MapEntry) (clock2 : Nat), Stamped ents2 clock2 → ents2.map (fun e => (e.key, e.val)) = (mdel es k).map (fun e => (den e.1.sv, den (enc e.2))) →
          (Builtin.delete_ #[t, ts1] o.type #[.map (some r'), den k.sv]).run P w = .ok (.tuple #[]) { w with heap := w.heap.setIfInBounds r' (.map ents2.toArray clock2) } → o.wp P (actOf st) w K Q := by
        intro ents2 clock2 hst2 hm hrun
        have hr2 := hput ⟨.blk r', .mapL kd' enc (mdel es k)⟩ [(r', .map ents2.toArray clock2)] _ ⟨mdel_kind es hks, ents2, clock2, rfl, hst2, hm⟩ (hH.setMap _)
        have h5 := hN _ hx _ (by rw [heap_put]; exact hr2)
        rw [actOf_put] at h5
        unfold Oper.wp
        have hex : (execOp (actOf st).eval o).run P w = .ok (.value undef) { w with heap := w.heap.setIfInBounds r' (.map ents2.toArray clock2) } := by
          have hm1 : (actOf st).eval x = .map (some r') := h1.symm
          have : (execOp (actOf st).eval o).run P w = (do pure (Next.value (← Builtin.delete_ #[t, ts1] o.type #[.map (some r'), den k.sv])) : Sem Next).run P w := by
            simp [execOp, ho, resolve, invoke, builtin, hm1, ← h2]
          rw [this]
          simp only [Sem.run_bind, hrun, Result.andThen_ok, Sem.run_pure]
          rfl
        rw [hex]
        exact h5
      cases ents with
      | nil =>
        have : es = [] := by cases es <;> simp_all
        subst this
        refine fin [] clock hst rfl ?_
        have hf : (Instr.findKey kt (den k.sv) []).run P w = .ok none w := run_findKey (β := Unit) (enc := fun _ => .bool true) (es := []) hkt hk (fun _ h => by cases h) rfl
        unfold Builtin.delete_
        simp [underlying, hu, run_getObj_at hh, hck, hf, run_setObj_map _ hh]
      | cons e0 ents0 =>
        cases es with
        | nil => simp at he
        | cons e1' es0 =>
          rcases find_set enc hk e1'.2 (e0 :: ents0) (e1' :: es0) 0 hks he with ⟨f1, _, f3⟩ | ⟨j, v0, old, f1, f2, f3, _, f5⟩
          · refine fin (e0 :: ents0) clock hst (by rw [f3]; exact he) ?_
            unfold Builtin.delete_
            have hf := (run_findKey (w := w) hkt hk hks he).trans (congrArg (fun r => Result.ok r w) f1)
            simp [underlying, hu, run_getObj_at hh, hck, hf, run_setObj_map _ hh]
          · rw [Nat.zero_add] at f1
            refine fin ((e0 :: ents0).eraseIdx j) clock (hst.erase j) f5 ?_
            have hj : j < (e0 :: ents0).length := by
              rcases Nat.lt_or_ge j (e0 :: ents0).length with h | h
              · exact h
              · rw [List.getElem?_eq_none h] at f2; cases f2
            have herase : (e0 :: ents0).toArray.eraseIdxIfInBounds j = ((e0 :: ents0).eraseIdx j).toArray := by
              simp
            unfold Builtin.delete_
            have hf := (run_findKey (w := w) hkt hk hks he).trans (congrArg (fun r => Result.ok r w) f1)
            simp [underlying, hu, run_getObj_at hh, hck, hf, run_setObj_map _ hh]
    · rename_i r' β kd' enc es k0 r0 e4
      obtain ⟨⟨rfl, hk, rfl⟩, hx⟩ := hx
      obtain ⟨c, L, ⟨_, hks, ents, clock, rfl, hst, he⟩, hH, hput⟩ := hr.get e4
      have hh := hH.heap .here
      have hck : ∀ b, (Instr.checkKey b 10000 kt (den k.sv)).run P w = .ok () w := fun b => checkKey_ok hkt hk b
      have fin : ∀ (ents2 : List MapEntry) (clock2 : Nat), Stamped ents2 clock2 → ents2.map (fun e => (e.key, e.val)) = (mdel es k).map (fun e => (den e.1.sv, den (enc e.2))) →
          (Builtin.delete_ #[t, ts1] o.type #[.map (some r'), den k.sv]).run P w = .ok (.tuple #[]) { w with heap := w.heap.setIfInBounds r' (.map ents2.toArray clock2) } → o.wp P (actOf st) w K Q := by
        intro ents2 clock2 hst2 hm hrun
        have hr2 := hput ⟨.blk r', .mapL kd' enc (mdel es k)⟩ [(r', .map ents2.toArray clock2)] _ ⟨mdel_kind es hks, ents2, clock2, rfl, hst2, hm⟩ (hH.setMap _)
        have h5 := hN _ hx _ (by rw [heap_put]; exact hr2)
        rw [actOf_put] at h5
        unfold Oper.wp
        have hex : (execOp (actOf st).eval o).run P w = .ok (.value undef) { w with heap := w.heap.setIfInBounds r' (.map ents2.toArray clock2) } := by
          have hm1 : (actOf st).eval x = .map (some r') := h1.symm
          have : (execOp (actOf st).eval o).run P w = (do pure (Next.value (← Builtin.delete_ #[t, ts1] o.type #[.map (some r'), den k.sv])) : Sem Next).run P w := by
            simp [execOp, ho, resolve, invoke, builtin, hm1, ← h2]
          rw [this]
          simp only [Sem.run_bind, hrun, Result.andThen_ok, Sem.run_pure]
          rfl
        rw [hex]
        exact h5
      cases ents with
      | nil =>
        have : es = [] := by cases es <;> simp_all
        subst this
        refine fin [] clock hst rfl ?_
        have hf : (Instr.findKey kt (den k.sv) []).run P w = .ok none w := run_findKey (β := Unit) (enc := fun _ => .bool true) (es := []) hkt hk (fun _ h => by cases h) rfl
        unfold Builtin.delete_
        simp [underlying, hu, run_getObj_at hh, hck, hf, run_setObj_map _ hh]
      | cons e0 ents0 =>
        cases es with
        | nil => simp at he
        | cons e1' es0 =>
          rcases find_set enc hk e1'.2 (e0 :: ents0) (e1' :: es0) 0 hks he with ⟨f1, _, f3⟩ | ⟨j, v0, old, f1, f2, f3, _, f5⟩
          · refine fin (e0 :: ents0) clock hst (by rw [f3]; exact he) ?_
            unfold Builtin.delete_
            have hf := (run_findKey (w := w) hkt hk hks he).trans (congrArg (fun r => Result.ok r w) f1)
            simp [underlying, hu, run_getObj_at hh, hck, hf, run_setObj_map _ hh]
          · rw [Nat.zero_add] at f1
            refine fin ((e0 :: ents0).eraseIdx j) clock (hst.erase j) f5 ?_
            have hj : j < (e0 :: ents0).length := by
              rcases Nat.lt_or_ge j (e0 :: ents0).length with h | h
              · exact h
              · rw [List.getElem?_eq_none h] at f2; cases f2
            have herase : (e0 :: ents0).toArray.eraseIdxIfInBounds j = ((e0 :: ents0).eraseIdx j).toArray := by
              simp
            unfold Builtin.delete_
            have hf := (run_findKey (w := w) hkt hk hks he).trans (congrArg (fun r => Result.ok r w) f1)
            simp [underlying, hu, run_getObj_at hh, hck, hf, run_setObj_map _ hh]
    · rename_i r' β kd' enc es clk e4
      obtain ⟨⟨rfl, hk, rfl⟩, hx⟩ := hx
      obtain ⟨c, L, ⟨hks, ents, rfl, hst, he⟩, hH, hput⟩ := hr.get e4
      have hh := hH.heap .here
      have hck : ∀ b, (Instr.checkKey b 10000 kt (den k.sv)).run P w = .ok () w := fun b => checkKey_ok hkt hk b
      have he2 : ents.map (fun e => (e.key, e.val)) = es.map fun e => (den e.1.sv, den ((fun x : Nat × β => enc x.2) e.2)) := by
        have := congrArg (List.map fun x : Value × Nat × Value => (x.1, x.2.2)) he
        simpa [List.map_map, Function.comp_def] using this
      have fin : ∀ (ents2 : List MapEntry), Stamped ents2 clk → ents2.map (fun e => (e.key, e.born, e.val)) = (mdel es k).map (fun e => (den e.1.sv, e.2.1, den (enc e.2.2))) →
          (Builtin.delete_ #[t, ts1] o.type #[.map (some r'), den k.sv]).run P w = .ok (.tuple #[]) { w with heap := w.heap.setIfInBounds r' (.map ents2.toArray clk) } → o.wp P (actOf st) w K Q := by
        intro ents2 hst2 hm hrun
        have hr2 := hput ⟨.blk r', .mapS kd' enc (mdel es k) clk⟩ [(r', .map ents2.toArray clk)] _ ⟨mdel_kind es hks, ents2, rfl, hst2, hm⟩ (hH.setMap _)
        have h5 := hN _ hx _ (by rw [heap_put]; exact hr2)
        rw [actOf_put] at h5
        unfold Oper.wp
        have hex : (execOp (actOf st).eval o).run P w = .ok (.value undef) { w with heap := w.heap.setIfInBounds r' (.map ents2.toArray clk) } := by
          have hm1 : (actOf st).eval x = .map (some r') := h1.symm
          have : (execOp (actOf st).eval o).run P w = (do pure (Next.value (← Builtin.delete_ #[t, ts1] o.type #[.map (some r'), den k.sv])) : Sem Next).run P w := by
            simp [execOp, ho, resolve, invoke, builtin, hm1, ← h2]
          rw [this]
          simp only [Sem.run_bind, hrun, Result.andThen_ok, Sem.run_pure]
          rfl
        rw [hex]
        exact h5
      have hf0 := run_findKey (P := P) (w := w) (enc := fun x : Nat × β => enc x.2) hkt hk hks he2
      rcases find_delS enc (k := k) ents es 0 he with ⟨f1, f3⟩ | ⟨j, v0, f1, hj, f5⟩
      · refine fin ents hst (by rw [f3]; exact he) ?_
        unfold Builtin.delete_
        have hf := hf0.trans (congrArg (fun r => Result.ok r w) f1)
        simp [underlying, hu, run_getObj_at hh, hck, hf, run_setObj_map _ hh]
      · rw [Nat.zero_add] at f1
        refine fin (ents.eraseIdx j) (hst.erase j) f5 ?_
        unfold Builtin.delete_
        have hf := hf0.trans (congrArg (fun r => Result.ok r w) f1)
        simp [underlying, hu, run_getObj_at hh, hck, hf, run_setObj_map _ hh]
    · rename_i r' kd' es e4
      obtain ⟨⟨rfl, hk, rfl⟩, hx⟩ := hx
      obtain ⟨c, L, ⟨hks, ents, clock, rfl, hst, he⟩, hH, hput⟩ := hr.get e4
      have hh := hH.heap .here
      have hck : ∀ b, (Instr.checkKey b 10000 kt (den k.sv)).run P w = .ok () w := fun b => checkKey_ok hkt hk b
      have fin : ∀ (ents2 : List MapEntry) (clock2 : Nat), Stamped ents2 clock2 → ents2.map (fun e => (e.key, e.val)) = (mdel es k).map (fun e => (den e.1.sv, den e.2)) →
          (Builtin.delete_ #[t, ts1] o.type #[.map (some r'), den k.sv]).run P w = .ok (.tuple #[]) { w with heap := w.heap.setIfInBounds r' (.map ents2.toArray clock2) } → o.wp P (actOf st) w K Q := by
        intro ents2 clock2 hst2 hm hrun
        have hr2 := hput ⟨.blk r', .mapV kd' (mdel es k)⟩ [(r', .map ents2.toArray clock2)] _ ⟨mdel_kind es hks, ents2, clock2, rfl, hst2, hm⟩ (hH.setMap _)
        have h5 := hN _ hx _ (by rw [heap_put]; exact hr2)
        rw [actOf_put] at h5
        unfold Oper.wp
        have hex : (execOp (actOf st).eval o).run P w = .ok (.value undef) { w with heap := w.heap.setIfInBounds r' (.map ents2.toArray clock2) } := by
          have hm1 : (actOf st).eval x = .map (some r') := h1.symm
          have : (execOp (actOf st).eval o).run P w = (do pure (Next.value (← Builtin.delete_ #[t, ts1] o.type #[.map (some r'), den k.sv])) : Sem Next).run P w := by
            simp [execOp, ho, resolve, invoke, builtin, hm1, ← h2]
          rw [this]
          simp only [Sem.run_bind, hrun, Result.andThen_ok, Sem.run_pure]
          rfl
        rw [hex]
        exact h5
      cases ents with
      | nil =>
        have : es = [] := by cases es <;> simp_all
        subst this
        refine fin [] clock hst rfl ?_
        have hf : (Instr.findKey kt (den k.sv) []).run P w = .ok none w := run_findKey (β := Unit) (enc := fun _ => .bool true) (es := []) hkt hk (fun _ h => by cases h) rfl
        unfold Builtin.delete_
        simp [underlying, hu, run_getObj_at hh, hck, hf, run_setObj_map _ hh]
      | cons e0 ents0 =>
        cases es with
        | nil => simp at he
        | cons e1' es0 =>
          rcases find_set (fun v : SV => v) hk e1'.2 (e0 :: ents0) (e1' :: es0) 0 hks he with ⟨f1, _, f3⟩ | ⟨j, v0, old, f1, f2, f3, _, f5⟩
          · refine fin (e0 :: ents0) clock hst (by rw [f3]; exact he) ?_
            unfold Builtin.delete_
            have hf := (run_findKey (w := w) (enc := fun v : SV => v) hkt hk hks he).trans (congrArg (fun r => Result.ok r w) f1)
            simp [underlying, hu, run_getObj_at hh, hck, hf, run_setObj_map _ hh]
          · rw [Nat.zero_add] at f1
            refine fin ((e0 :: ents0).eraseIdx j) clock (hst.erase j) f5 ?_
            have hj : j < (e0 :: ents0).length := by
              rcases Nat.lt_or_ge j (e0 :: ents0).length with h | h
              · exact h
              · rw [List.getElem?_eq_none h] at f2; cases f2
            have herase : (e0 :: ents0).toArray.eraseIdxIfInBounds j = ((e0 :: ents0).eraseIdx j).toArray := by
              simp
            unfold Builtin.delete_
            have hf := (run_findKey (w := w) (enc := fun v : SV => v) hkt hk hks he).trans (congrArg (fun r => Result.ok r w) f1)
            simp [underlying, hu, run_getObj_at hh, hck, hf, run_setObj_map _ hh]
    · exact hS hx
  · exact hS hx

theorem sound_xclear (S : Prop) (t : TypeId) (x : Operand) (ho : o.op = .call ⟨.builtin .clear, #[x], #[t]⟩) (hN : ∀ st', N st' → ∀ w', Rep W F st'.heap w' → K (actOf st') w') (hr : Rep W F st.heap w)
    (hx : xclear P st o.dst t (st.eval x) N S) (hS : S → o.wp P (actOf st) w K Q) : o.wp P (actOf st) w K Q := by
  have h1 := den_eval st x
  unfold xclear at hx
  split at hx
  · rename_i l r kde e1 e3
    rw [e1] at h1
    obtain ⟨kd, e⟩ := kde
    obtain ⟨kt, hu, hkt⟩ := tkey_spec e3
    split at hx
    · rename_i r' β kd' enc es e4
      obtain ⟨rfl, hx⟩ := hx
      obtain ⟨c, L, ⟨hks, ents, clock, rfl, hst, he⟩, hH, hput⟩ := hr.get e4
      have hh := hH.heap .here
      have hr2 := hput ⟨.blk r', .mapL kd' enc ([] : List (Key × β))⟩ [(r', .map #[] clock)] _ ⟨fun e he => absurd he List.not_mem_nil, [], clock, rfl, .nil _, rfl⟩ (hH.setMap _)
      have h5 := hN _ hx _ (by rw [heap_put]; exact hr2)
      rw [actOf_put] at h5
      unfold Oper.wp
      have hex : (execOp (actOf st).eval o).run P w = .ok (.value undef) { w with heap := w.heap.setIfInBounds r' (.map #[] clock) } := by
        have hm1 : (actOf st).eval x = .map (some r') := h1.symm
        have : (execOp (actOf st).eval o).run P w = (do pure (Next.value (← Builtin.clear_ #[t] o.type #[.map (some r')])) : Sem Next).run P w := by
          simp [execOp, ho, resolve, invoke, builtin, hm1]
        rw [this]
        simp [Builtin.clear_, underlying, hu, run_getObj_at hh, run_setObj_map _ hh]
        try rfl
      rw [hex]
      exact h5
    · rename_i r' kd' es e4
      obtain ⟨rfl, hx⟩ := hx
      obtain ⟨c, L, ⟨hks, ents, clock, rfl, hst, he⟩, hH, hput⟩ := hr.get e4
      have hh := hH.heap .here
      have hr2 := hput ⟨.blk r', .mapV kd' []⟩ [(r', .map #[] clock)] _ ⟨fun e he => absurd he List.not_mem_nil, [], clock, rfl, .nil _, rfl⟩ (hH.setMap _)
      have h5 := hN _ hx _ (by rw [heap_put]; exact hr2)
      rw [actOf_put] at h5
      unfold Oper.wp
      have hex : (execOp (actOf st).eval o).run P w = .ok (.value undef) { w with heap := w.heap.setIfInBounds r' (.map #[] clock) } := by
        have hm1 : (actOf st).eval x = .map (some r') := h1.symm
        have : (execOp (actOf st).eval o).run P w = (do pure (Next.value (← Builtin.clear_ #[t] o.type #[.map (some r')])) : Sem Next).run P w := by
          simp [execOp, ho, resolve, invoke, builtin, hm1]
        rw [this]
        simp [Builtin.clear_, underlying, hu, run_getObj_at hh, run_setObj_map _ hh]
        try rfl
      rw [hex]
      exact h5
    · exact hS hx
  · exact hS hx

theorem sound_xmakeMap (t : TypeId) (ho : o.op = .makeMap t none) (hN : ∀ st', N st' → ∀ w', Rep W F st'.heap w' → K (actOf st') w') (hr : Rep W F st.heap w)
    (hx : xmakeMap P st o.dst t N) : o.wp P (actOf st) w K Q := by
  have fin : K ((actOf st).put o.dst (.map (some w.heap.size))) (w.alloc (.map #[] 0)) → o.wp P (actOf st) w K Q := by
    intro h1
    unfold Oper.wp
    simp [execOp, ho, Instr.makeMap, newObj]
    exact h1
  unfold xmakeMap at hx
  split at hx
  · rename_i kd e _
    have h1 := hN _ (hx w.heap.size) (w.alloc (.map #[] 0)) (by
      rw [heap_put]
      exact hr.new (e := ⟨.blk w.heap.size, .mapV kd []⟩) (c := [(w.heap.size, .map #[] 0)]) ⟨fun e he => absurd he List.not_mem_nil, [], 0, rfl, .nil _, rfl⟩ (fun L hL => hL.alloc _))
    rw [actOf_put] at h1
    exact fin h1
  · have h1 := hN _ (hx w.heap.size) (w.alloc (.map #[] 0)) (by
      rw [heap_put]
      exact hr.new (e := ⟨.blk w.heap.size, .raw (.map #[] 0)⟩) (c := [(w.heap.size, .map #[] 0)]) rfl (fun L hL => hL.alloc _))
    rw [actOf_put] at h1
    exact fin h1

theorem flatV_take {α : Type} {enc : α → List SV} {sz : Nat} (h : ∀ x, (enc x).length = sz) : ∀ (xs : List α) (k : Nat), flatV enc (xs.take k) = (flatV enc xs).take (k * sz)
  | xs, 0 => by simp [flatV]
  | [], k + 1 => by simp [flatV]
  | x :: xs, k + 1 => by
    have ih := flatV_take h xs k
    have e1 : ∀ l, flatV enc (x :: l) = denL (enc x) ++ flatV enc l := fun l => by simp [flatV]
    have hl : (denL (enc x)).length = sz := by rw [length_denL, h]
    rw [List.take_succ_cons, e1, e1, ih, Nat.succ_mul, Nat.add_comm, List.take_append, hl]
    have h1 : (denL (enc x)).take (sz + k * sz) = denL (enc x) := List.take_of_length_le (by rw [hl]; omega)
    rw [h1, Nat.add_sub_cancel_left]

theorem sound_xclearS (S : Prop) (t : TypeId) (x : Operand) (l : Nat) (ao : Option Addr) (cap sz lo hi : Nat) (ho : o.op = .call ⟨.builtin .clear, #[x], #[t]⟩) (hsub : st.eval x = .sub l ao cap sz lo hi) (hN : ∀ st', N st' → ∀ w', Rep W F st'.heap w' → K (actOf st') w') (hr : Rep W F st.heap w)
    (hx : xclearS P st o.dst t l ao cap sz lo hi N S) (hS : S → o.wp P (actOf st) w K Q) : o.wp P (actOf st) w K Q := by
  have h1 := den_eval st x
  rw [hsub] at h1
  unfold xclearS at hx
  split at hx
  · rename_i e hu
    split at hx
    · rename_i cs ao' cap' α T sz' enc xs d hz hl
      obtain ⟨⟨rfl, rfl, rfl, hlc, hone, h2, h3⟩, hx⟩ := hx
      obtain ⟨c, L, ⟨hO, hel⟩, hH, hput⟩ := hr.get hl
      obtain ⟨z, hz1, hz2⟩ := Option.map_eq_some_iff.1 hz
      obtain ⟨inf, hi1, hi2⟩ := Option.bind_eq_some_iff.1 hz1
      have hfl := flatV_take hel xs lo
      have hxl := length_flatV hel xs
      have hcells : z.cells.toList = denL cs := by rw [← hz2, denL_eq, List.map_map, show den ∘ ofValue = id from funext den_ofValue, List.map_id]
      have fin : ∀ w', (Builtin.clear_ #[t] o.type #[(actOf st).eval x]).run P w = .ok (.tuple #[]) w' → (∃ c', Own T sz' ao' (xs.take lo).length cap' (flatV enc (xs.take lo)) c' ∧ H W w' (c' :: L)) → o.wp P (actOf st) w K Q := by
        rintro w' hrun ⟨c', hO', hH'⟩
        have h5 := hN _ hx w' (by rw [heap_put]; exact hput ⟨.sl ao' cap', .vecL T sz' enc (xs.take lo) d⟩ c' w' ⟨hO', hel⟩ hH')
        rw [actOf_put] at h5
        unfold Oper.wp
        have hex : (execOp (actOf st).eval o).run P w = .ok (.value undef) w' := by
          have : (execOp (actOf st).eval o).run P w = (do pure (Next.value (← Builtin.clear_ #[t] o.type #[(actOf st).eval x])) : Sem Next).run P w := by
            simp [execOp, ho, resolve, invoke, builtin]
          rw [this]
          simp only [Sem.run_bind, hrun, Result.andThen_ok, Sem.run_pure]
          rfl
        rw [hex]
        exact h5
      have hlen : (xs.take lo).length = lo := by simp; omega
      have hcap := hO.2.1
      by_cases h0 : lo = hi
      · subst h0
        refine fin w ?_ ⟨c, ⟨?_, by omega, ?_⟩, hH⟩
        · rw [← h1]
          simp only [den, Nat.sub_self]
          unfold Builtin.clear_
          cases (if cap' = lo then ao' else ao'.map (·.add (lo * sz'))) <;> simp [underlying, hu]
        · rw [length_flatV hel]
        · rcases hO.2.2 with ⟨g1, g2, g3⟩ | ⟨g, off, cur, g1, g2, g3, g4⟩
          · exact .inl ⟨g1, g2, g3⟩
          · refine .inr ⟨g, off, cur, g1, g2, g3, ?_⟩
            rw [hfl, ← g4, hlen, List.take_take]
            congr 1
            exact (Nat.min_eq_left (Nat.mul_le_mul_right _ h3)).symm
      · rcases hO.2.2 with ⟨_, g2, _⟩ | ⟨g, off, cur, g1, g2, g3, g4⟩
        · omega
        subst g1; subst g2
        have hne : ¬ cap' = lo := by omega
        have hadd : (⟨g, off, none⟩ : Addr).add (lo * sz') = ⟨g, off + lo * sz', none⟩ := Addr.add_mid' _ _ _
        have hev : (actOf st).eval x = .slice (some ⟨g, off + lo * sz', none⟩) (hi - lo) (cap' - lo) := by
          rw [← h1]; simp only [den, if_neg hne, Option.map_some, hadd]
        have hzs : ((Builtin.zeroCells z.cells (hi - lo)).toList).length = (hi - lo) * sz' := by
          rw [Array.length_toList, size_zeroCells]
          congr 1
          rw [← Array.length_toList, hcells, length_denL, ← lenN_eq, hlc]
        have hfit : off + lo * sz' + ((Builtin.zeroCells z.cells (hi - lo)).toList).length ≤ cur.size := by
          rw [hzs]
          have : hi * sz' ≤ cap' * sz' := Nat.mul_le_mul_right _ (by omega)
          have e2 : hi * sz' = lo * sz' + (hi - lo) * sz' := by rw [← Nat.add_mul]; congr 1; omega
          omega
        obtain ⟨w', hst, hH'⟩ := run_storeCells_H (P := P) g (off + lo * sz') T (Builtin.zeroCells z.cells (hi - lo)).toList 0 cur w L hH (by simpa using hfit) (by
          intro u hu
          have hu2 : u ∈ (denL cs) := by
            rw [← hcells]
            unfold Builtin.zeroCells at hu
            simp only [Array.toList_map, List.mem_map] at hu
            obtain ⟨j, hj, rfl⟩ := hu
            have hpos : 0 < z.cells.size := by
              rcases Nat.eq_zero_or_pos z.cells.size with h | h
              · simp [h] at hj
              · exact h
            have : j % z.cells.size < z.cells.size := Nat.mod_lt _ hpos
            rw [getElem!_pos z.cells _ this]
            simp
          exact oneCells_of_allOne cs hone u hu2)
        simp only [Nat.add_zero] at hH'
        refine fin w' ?_ ⟨_, ⟨?_, by omega, .inr ⟨g, off, _, rfl, rfl, by rw [size_putCells]; exact g3, ?_⟩⟩, hH'⟩
        · rw [hev]
          have hne0 : ¬ hi - lo = 0 := by omega
          obtain ⟨m, hm⟩ : ∃ m, hi - lo = m + 1 := ⟨hi - lo - 1, by omega⟩
          unfold Builtin.clear_
          rw [hm] at hst ⊢
          simp [underlying, hu, zeroValue, typeInfo, hi1, hi2, hst]
        · rw [length_flatV hel]
        · rw [putCells_toList _ _ _ hfit, hlen, hfl, ← g4, List.take_take, Nat.min_eq_left (Nat.mul_le_mul_right _ (by omega))]
          have hl1 : (cur.toList.take (off + lo * sz')).length = off + lo * sz' := by
            have hs1 : cur.toList.length = cur.size := Array.length_toList
            rw [List.length_take, hs1]; omega
          rw [List.append_assoc, List.drop_append, List.drop_take, hl1, show off - (off + lo * sz') = 0 by omega, List.drop_zero, show off + lo * sz' - off = lo * sz' by omega]
          rw [List.take_append]
          have hl2 : ((cur.toList.drop off).take (lo * sz')).length = lo * sz' := by
            have hs1 : cur.toList.length = cur.size := Array.length_toList
            rw [List.length_take, List.length_drop, hs1]; omega
          rw [hl2, Nat.sub_self, List.take_zero, List.append_nil]
          exact List.take_of_length_le (by rw [hl2]; exact Nat.le_refl _)
    · exact hS hx
  · exact hS hx

theorem flatV_dropD {α : Type} {enc : α → List SV} {sz : Nat} (h : ∀ x, (enc x).length = sz) (xs : List α) (k : Nat) : flatV enc (xs.drop k) = (flatV enc xs).drop (k * sz) := by
  have h1 : flatV enc xs = flatV enc (xs.take k) ++ flatV enc (xs.drop k) := by
    have e6 : ∀ u v : List α, flatV enc (u ++ v) = flatV enc u ++ flatV enc v := fun u v => by simp [flatV]
    rw [← e6, List.take_append_drop]
  by_cases hk : k ≤ xs.length
  · have h2 : (flatV enc (xs.take k)).length = k * sz := by rw [length_flatV h, List.length_take, Nat.min_eq_left hk]
    rw [h1, ← h2, List.drop_left]
  · have h3 : xs.length * sz ≤ k * sz := Nat.mul_le_mul_right _ (by omega)
    rw [List.drop_of_length_le (by omega), List.drop_of_length_le (by rw [length_flatV h]; exact h3)]
    rfl
theorem length_copyL {α : Type} (xs : List α) (lo lo2 k : Nat) (h1 : lo + k ≤ xs.length) (h2 : lo2 + k ≤ xs.length) : (copyL xs lo lo2 k).length = xs.length := by
  unfold copyL
  simp only [List.length_append, List.length_take, List.length_drop]
  omega
theorem take_app3 {α : Type} (p c r : List α) (n : Nat) (h : p.length + c.length ≤ n) : (p ++ (c ++ r)).take n = p ++ (c ++ r.take (n - (p.length + c.length))) := by
  rw [List.take_append, List.take_of_length_le (by omega), List.take_append, List.take_of_length_le (by omega), Nat.sub_sub]
theorem sound_xcopy (S : Prop) {x y : Operand} {t : TypeId} (ho : o.op = .call { callee := .builtin .copy, args := #[x, y], argTypes := #[t, t] }) (hN : ∀ st', N st' → ∀ w', Rep W F st'.heap w' → K (actOf st') w') (hr : Rep W F st.heap w)
    (hx : xcopy P st o.dst t (st.eval x) (st.eval y) N S) (hS : S → o.wp P (actOf st) w K Q) : o.wp P (actOf st) w K Q := by
  have h1 := den_eval st x
  have h2 := den_eval st y
  unfold xcopy at hx
  split at hx
  · rename_i l ao cap sz lo hi l2 ao2 cap2 sz2 lo2 hi2 e1 e2
    rw [e1] at h1; rw [e2] at h2
    split at hx
    · rename_i e sz' bytes ao' cap' α T sz0 enc xs d e5 hl
      obtain ⟨⟨_, rfl, rfl, rfl, rfl, rfl, rfl, rfl, hone, q1, q2, q3, q4⟩, hx⟩ := hx
      obtain ⟨i, z, hu, hi0, hz0, hzz, hsz, hby⟩ := tapp_spec e5
      obtain ⟨c, L, ⟨hO, hel⟩, hH, hput⟩ := hr.get hl
      have hxl := length_flatV hel xs
      obtain ⟨k, hk⟩ : ∃ k, k = Nat.min (hi2 - lo2) (hi - lo) := ⟨_, rfl⟩
      rw [← hk] at hx
      have hk1 : k ≤ hi2 - lo2 := by rw [hk]; exact Nat.min_le_left _ _
      have hk2 : k ≤ hi - lo := by rw [hk]; exact Nat.min_le_right _ _
      have hlen : (copyL xs lo lo2 k).length = xs.length := length_copyL xs lo lo2 k (by omega) (by omega)
      have fin : ∀ w', (Builtin.copy_ #[t, t] o.type #[(actOf st).eval x, (actOf st).eval y]).run P w = .ok (goInt k) w' → (∃ c', Own T sz' ao2 (copyL xs lo lo2 k).length cap2 (flatV enc (copyL xs lo lo2 k)) c' ∧ H W w' (c' :: L)) → o.wp P (actOf st) w K Q := by
        rintro w' hrun ⟨c', hO', hH'⟩
        have h5 := hN _ hx w' (by rw [heap_put]; exact hput ⟨.sl ao2 cap2, .vecL T sz' enc (copyL xs lo lo2 k) d⟩ c' w' ⟨hO', hel⟩ hH')
        rw [actOf_put] at h5
        unfold Oper.wp
        have hex : (execOp (actOf st).eval o).run P w = .ok (.value (goInt k)) w' := by
          have : (execOp (actOf st).eval o).run P w = (do pure (Next.value (← Builtin.copy_ #[t, t] o.type #[(actOf st).eval x, (actOf st).eval y])) : Sem Next).run P w := by
            simp [execOp, ho, resolve, invoke, builtin]
          rw [this]
          simp only [Sem.run_bind, hrun, Result.andThen_ok, Sem.run_pure]
        rw [hex]
        exact h5
      have hcap := hO.2.1
      by_cases h0 : k = 0
      · subst h0
        have hc0 : copyL xs lo lo2 0 = xs := by simp [copyL]
        rw [hc0] at fin
        refine fin w ?_ ⟨c, hO, hH⟩
        rw [← h1, ← h2]
        simp only [den]
        have hl0 : ∀ (a : Addr), (loadCells a 0).run P w = .ok #[] w := fun a => by simpa using run_loadCells_list (P := P) w a [] (by simp)
        have hmin : Nat.min (hi2 - lo2) (hi - lo) = 0 := hk.symm
        cases (if cap2 = lo then ao2 else ao2.map (·.add (lo * sz'))) <;> cases (if cap2 = lo2 then ao2 else ao2.map (·.add (lo2 * sz'))) <;>
          simp [Builtin.copy_, run_underlying hu, Builtin.lenOf, Builtin.firstCells, sizeOf, typeInfo, hi0, hmin, storeCells, hl0]
      · rcases hO.2.2 with ⟨_, g2, _⟩ | ⟨g, off, cur, g1, g2, g3, g4⟩
        · omega
        subst g1; subst g2
        have hne : ¬ cap2 = lo := by omega
        have hne2 : ¬ cap2 = lo2 := by omega
        have hev : (actOf st).eval x = .slice (some ⟨g, off + lo * sz', none⟩) (hi - lo) (cap2 - lo) := by
          rw [← h1]; simp only [den, if_neg hne, Option.map_some, Addr.add_mid']
        have hev2 : (actOf st).eval y = .slice (some ⟨g, off + lo2 * sz', none⟩) (hi2 - lo2) (cap2 - lo2) := by
          rw [← h2]; simp only [den, if_neg hne2, Option.map_some, Addr.add_mid']
        obtain ⟨ys, hys⟩ : ∃ ys, ys = (xs.drop lo2).take k := ⟨_, rfl⟩
        have hyl : ys.length = k := by rw [hys]; simp; omega
        have hcl : (flatV enc ys).length = k * sz' := by rw [length_flatV hel, hyl]
        have hys2 : flatV enc ys = ((flatV enc xs).drop (lo2 * sz')).take (k * sz') := by rw [hys, flatV_take hel, flatV_dropD hel]
        have hsrc : ∀ j u, (flatV enc ys)[j]? = some u → w.cell? ((⟨g, off + lo2 * sz', none⟩ : Addr).add j) = some u := fun j u hju => by
          rw [Addr.add_mid', show off + lo2 * sz' + j = off + (lo2 * sz' + j) by omega]
          refine hO.cell hH (lo2 * sz' + j) u ?_
          rw [hys2, List.getElem?_take, List.getElem?_drop] at hju
          split at hju
          · exact hju
          · cases hju
        have hfit : off + lo * sz' + (flatV enc ys).length ≤ cur.size := by
          rw [hcl]
          have e3 : (lo + k) * sz' ≤ cap2 * sz' := Nat.mul_le_mul_right _ (by omega)
          rw [Nat.add_mul] at e3
          omega
        obtain ⟨w', hst, hH'⟩ := run_storeCells_H (P := P) g (off + lo * sz') T (flatV enc ys) 0 cur w L hH (by simpa using hfit) (one_flatV hone ys)
        simp only [Nat.add_zero] at hH'
        have hf := run_firstCells_some (P := P) w sz' k ⟨g, off + lo2 * sz', none⟩ (hi2 - lo2) (cap2 - lo2) (flatV enc ys) hcl hsrc
        refine fin w' ?_ ⟨_, ⟨length_flatV hel _, by rw [hlen]; exact hcap, .inr ⟨g, off, _, rfl, rfl, by rw [size_putCells]; exact g3, ?_⟩⟩, hH'⟩
        · rw [hev, hev2]
          simp [Builtin.copy_, run_underlying hu, Builtin.lenOf, sizeOf, typeInfo, hi0, hsz, ← hk, hf, hst]
        · rw [putCells_toList _ _ _ hfit, hlen]
          have hs1 : cur.toList.length = cur.size := Array.length_toList
          have hX : ∀ q, (flatV enc xs).drop q = (cur.toList.drop (off + q)).take (xs.length * sz' - q) := fun q => by
            rw [← g4, List.drop_take, List.drop_drop]
          have hXt : ∀ q, q ≤ xs.length * sz' → (flatV enc xs).take q = (cur.toList.drop off).take q := fun q hq => by
            rw [← g4, List.take_take, Nat.min_eq_left hq]
          have e4 : lo * sz' + k * sz' ≤ xs.length * sz' := by rw [← Nat.add_mul]; exact Nat.mul_le_mul_right _ (by omega)
          have hfl : flatV enc (copyL xs lo lo2 k) = (flatV enc xs).take (lo * sz') ++ (flatV enc ys ++ (flatV enc xs).drop (lo * sz' + k * sz')) := by
            unfold copyL
            rw [← hys]
            have e6 : ∀ u v : List α, flatV enc (u ++ v) = flatV enc u ++ flatV enc v := fun u v => by simp [flatV]
            rw [e6, e6, flatV_take hel, flatV_dropD hel, Nat.add_mul]
          have hl1 : (cur.toList.take (off + lo * sz')).length = off + lo * sz' := by
            rw [List.length_take, hs1]; omega
          rw [List.append_assoc, List.drop_append, List.drop_take, hl1, show off - (off + lo * sz') = 0 by omega, List.drop_zero, show off + lo * sz' - off = lo * sz' by omega, hfl, hXt _ (by omega), hX]
          have hl2 : ((cur.toList.drop off).take (lo * sz')).length = lo * sz' := by
            rw [List.length_take, List.length_drop, hs1]; omega
          rw [take_app3 _ _ _ _ (by rw [hl2, hcl]; exact e4), hl2, hcl]
          congr 2
          rw [show off + lo * sz' + k * sz' = off + (lo * sz' + k * sz') by omega]
    · exact hS hx
  · exact hS hx

theorem sound_xrange (S : Prop) (t : TypeId) (x : Operand) (ho : o.op = .range t x) (hN : ∀ st', N st' → ∀ w', Rep W F st'.heap w' → K (actOf st') w') (hr : Rep W F st.heap w)
    (hx : xrange P st o.dst t (st.eval x) N S) (hS : S → o.wp P (actOf st) w K Q) : o.wp P (actOf st) w K Q := by
  have h1 := den_eval st x
  unfold xrange at hx
  split at hx
  · rename_i l r kd e e1 e3
    rw [e1] at h1
    obtain ⟨kt, hu, hkt⟩ := tkey_spec e3
    split at hx
    · rename_i r' β kd' enc es e4
      obtain ⟨rfl, hx⟩ := hx
      obtain ⟨c, L, ⟨hks, ents, clock, rfl, hst, he⟩, hH, hput⟩ := hr.get e4
      have hh := hH.heap .here
      have hlen : ents.length = es.length := by simpa using congrArg List.length he
      have key : ∀ (es : List (Key × β)) (ents : List MapEntry), ents.map (fun e => (e.key, e.val)) = es.map (fun e => (den e.1.sv, den (enc e.2))) →
          ∃ es' : List (Key × (Nat × β)), es'.map (fun e => (e.1, e.2.2)) = es ∧ es'.map (·.2.1) = ents.map (·.born) ∧ ents.map (fun e => (e.key, e.born, e.val)) = es'.map fun e => (den e.1.sv, e.2.1, den (enc e.2.2)) := by
        intro es
        induction es with
        | nil => intro ents he; have : ents = [] := by cases ents <;> simp_all
                 subst this; exact ⟨[], rfl, rfl, rfl⟩
        | cons e0 es ih =>
          intro ents he
          cases ents with
          | nil => simp at he
          | cons a ents =>
            simp only [List.map_cons, List.cons.injEq, Prod.mk.injEq] at he
            obtain ⟨⟨ek, ev⟩, he⟩ := he
            obtain ⟨es', g1, g2, g3⟩ := ih ents he
            exact ⟨(e0.1, a.born, e0.2) :: es', by simp [g1], by simp [g2], by simp [g3, ek, ev]⟩
      obtain ⟨es', g1, g2, g3⟩ := key es ents he
      have hn := hx es' clock w.heap.size g1 (by rw [g2]; exact hst.1)
      have hr2 := hput ⟨.blk r', .mapS kd' enc es' clock⟩ [(r', .map ents.toArray clock)] w ⟨fun e he => by
        have := hks (e.1, e.2.2) (by rw [← g1]; exact List.mem_map.2 ⟨e, he, rfl⟩)
        exact this, ents, rfl, hst, g3⟩ hH
      have hr3 := hr2.new (e := ⟨.blk w.heap.size, .iter l r' clock []⟩) (w' := w.alloc (.mapIter (some r') clock #[] clock)) (c := [(w.heap.size, .mapIter (some r') clock #[] clock)]) rfl (fun L hL => hL.alloc _)
      have h5 := hN _ hn _ (by rw [heap_put]; exact hr3)
      rw [actOf_put] at h5
      unfold Oper.wp
      have hm1 : (actOf st).eval x = .map (some r') := h1.symm
      have hex : (execOp (actOf st).eval o).run P w = .ok (.value (.pointer (some ⟨w.heap.size, 0, none⟩))) (w.alloc (.mapIter (some r') clock #[] clock)) := by
        simp only [execOp, ho, Sem.run_bind, hm1, run_range_map w t kt e r' ents.toArray clock hu hh, Result.andThen_ok, Sem.run_pure]
      rw [hex]
      exact h5
    · exact hS hx
  · exact hS hx

theorem H.setIter {W w : World} {L : List Ch} {r : Nat} {o0 : Obj} (o' : Obj) (h : H W w ([(r, o0)] :: L)) : H W (setBlock w r o') ([(r, o')] :: L) := by
  refine h.set .here (St.mk' rfl rfl rfl (by simp [setBlock]) (Nat.le_refl _)) fun k => ?_
  have hlt : r < w.heap.size := (Array.getElem?_eq_some_iff.1 (h.heap .here)).1
  by_cases hk : k = r
  · subst hk; rw [if_pos rfl]; simp [setBlock, hlt]
  · rw [if_neg hk]; simp [setBlock, Array.getElem?_setIfInBounds_ne (Ne.symm hk)]

theorem Rep.mapS {h : List Ent} {l r clk : Nat} {β : Type} {kd : Option KK} {enc : β → SV} {es : List (Key × (Nat × β))} (hr : Rep W F h w) (hl : nth h l = some ⟨.blk r, .mapS kd enc es clk⟩) :
    (∀ e ∈ es, keyKind e.1 = kd) ∧ ∃ (ents : List MapEntry), w.heap[r]? = some (.map ents.toArray clk) ∧ Stamped ents clk ∧ ents.map (fun e => (e.key, e.born, e.val)) = es.map fun e => (den e.1.sv, e.2.1, den (enc e.2.2)) := by
  obtain ⟨c, L, hc, hH, _⟩ := hr.get hl
  obtain ⟨hk, ents, rfl, hs, he⟩ := hc
  exact ⟨hk, ents, hH.get _ _ (by simp), hs, he⟩

theorem mem_stamp {β : Type} {enc : β → SV} {ents : List MapEntry} {es : List (Key × (Nat × β))} (he : ents.map (fun e => (e.key, e.born, e.val)) = es.map fun e => (den e.1.sv, e.2.1, den (enc e.2.2))) {a : MapEntry} (ha : a ∈ ents) :
    ∃ e ∈ es, den e.1.sv = a.key ∧ e.2.1 = a.born ∧ den (enc e.2.2) = a.val := by
  have : (a.key, a.born, a.val) ∈ es.map fun e => (den e.1.sv, e.2.1, den (enc e.2.2)) := by rw [← he]; exact List.mem_map.2 ⟨a, ha, rfl⟩
  obtain ⟨e, he1, he2⟩ := List.mem_map.1 this
  simp only [Prod.mk.injEq] at he2
  exact ⟨e, he1, he2.1, he2.2.1, he2.2.2⟩
theorem stamp_mem {β : Type} {enc : β → SV} {ents : List MapEntry} {es : List (Key × (Nat × β))} (he : ents.map (fun e => (e.key, e.born, e.val)) = es.map fun e => (den e.1.sv, e.2.1, den (enc e.2.2))) {e : Key × (Nat × β)} (ha : e ∈ es) :
    ∃ a ∈ ents, den e.1.sv = a.key ∧ e.2.1 = a.born ∧ den (enc e.2.2) = a.val := by
  have : (den e.1.sv, e.2.1, den (enc e.2.2)) ∈ ents.map fun e => (e.key, e.born, e.val) := by rw [he]; exact List.mem_map.2 ⟨e, ha, rfl⟩
  obtain ⟨a, he1, he2⟩ := List.mem_map.1 this
  simp only [Prod.mk.injEq] at he2
  exact ⟨a, he1, he2.1.symm, he2.2.1.symm, he2.2.2.symm⟩

theorem sound_xnext (S : Prop) (x : Operand) (ho : o.op = .next x false) (hN : ∀ st', N st' → ∀ w', Rep W F st'.heap w' → K (actOf st') w') (hr : Rep W F st.heap w)
    (hx : xnext P st o.dst (st.eval x) N S) (hS : S → o.wp P (actOf st) w K Q) : o.wp P (actOf st) w K Q := by
  have h1 := den_eval st x
  unfold xnext at hx
  split at hx
  · rename_i l b e1
    rw [e1] at h1
    split at hx
    · rename_i b' lm m clk seen e2
      split at hx
      · rename_i m' β kd enc es clk' e3
        obtain ⟨⟨rfl, rfl, rfl⟩, hx1, hx2⟩ := hx
        obtain ⟨hks, ents, hmap, hst, he⟩ := hr.mapS e3
        obtain ⟨c, L, hc, hH, hput⟩ := hr.get e2
        have hc : c = [(b', .mapIter (some m') clk' seen.toArray clk')] := hc
        subst hc
        have hit := hH.heap .here
        have hm1 : (actOf st).eval x = .pointer (some ⟨b', 0, none⟩) := h1.symm
        unfold Oper.wp
        rcases run_next_at (P := P) w o.type b' m' clk' clk' seen.toArray ents.toArray clk' hit hmap (by simpa using hst.2) (Nat.le_refl _) with ⟨h0, hrun⟩ | ⟨a, ha, w1, hw1, hrun⟩
        · have hall := all_seen _ _ h0
          have hn := hx2 fun e hem => by
            obtain ⟨a, ha, _, hb, _⟩ := stamp_mem he hem
            have := hall a (by simpa using ha)
            rw [hb]; simpa using this
          have hex : (execOp (actOf st).eval o).run P w = .ok (.value (.tuple #[.bool false])) w := by
            simp only [execOp, ho, Sem.run_bind, hm1, hrun, Result.andThen_ok, Sem.run_pure]
          rw [hex]
          have h5 := hN _ hn w (by rw [heap_put]; exact hr)
          rw [actOf_put] at h5
          exact h5
        · obtain ⟨ha1, ha2⟩ := mem_left ha
          simp only [List.mem_toArray] at ha1
          obtain ⟨⟨k, born, v⟩, hem, g1, g2, g3⟩ := mem_stamp he (by simpa using ha1)
          dsimp only at g1 g2 g3
          have hns : born ∉ seen := by rw [g2]; simpa using ha2
          have hH1 : H W w1 ([(b', .mapIter (some m') clk' seen.toArray clk')] :: L) := by rcases hw1 with rfl | rfl <;> first | exact hH | exact hH.drew
          have hr2 := hput ⟨.blk b', .iter lm m' clk' (snoc seen born)⟩ [(b', .mapIter (some m') clk' (seen.toArray.push a.born) clk')] _ (by show _ = _; rw [snoc_eq, g2]; simp) (hH1.setIter _)
          have hex : (execOp (actOf st).eval o).run P w = .ok (.value (.tuple #[.bool true, a.key, a.val])) (setBlock w1 b' (.mapIter (some m') clk' (seen.toArray.push a.born) clk')) := by
            simp only [execOp, ho, Sem.run_bind, hm1, hrun, Result.andThen_ok, Sem.run_pure]
          rw [hex]
          have hk := hks _ hem
          dsimp only at hk
          cases kd with
          | some kk =>
            cases k with
            | s _ => cases hk
            | g ks =>
              cases hk
              have h5 := hN _ (allKV_at ks _ hx1 born v hem hns) _ (by rw [heap_put]; exact hr2)
              rw [actOf_put] at h5
              show K ((actOf st).put o.dst (.tuple #[.bool true, a.key, a.val])) _
              rw [← g1, ← g3]
              exact h5
            | i kk' n =>
              cases hk
              have h5 := hN _ (hx1 n born v hem hns) _ (by rw [heap_put]; exact hr2)
              rw [actOf_put] at h5
              show K ((actOf st).put o.dst (.tuple #[.bool true, a.key, a.val])) _
              rw [← g1, ← g3]
              exact h5
          | none =>
            cases k with
            | i _ _ => cases hk
            | g _ => cases hk
            | s n =>
              have h5 := hN _ (hx1 n born v hem hns) _ (by rw [heap_put]; exact hr2)
              rw [actOf_put] at h5
              show K ((actOf st).put o.dst (.tuple #[.bool true, a.key, a.val])) _
              rw [← g1, ← g3]
              exact h5
      · exact hS hx
    · exact hS hx
  · exact hS hx

theorem sound_xentry (S : Prop) (x : Operand) (ho : o.op = .entry x) (hN : ∀ st', N st' → ∀ w', Rep W F st'.heap w' → K (actOf st') w') (hr : Rep W F st.heap w)
    (hx : xentry P st o.dst (st.eval x) N S) (hS : S → o.wp P (actOf st) w K Q) : o.wp P (actOf st) w K Q := by
  have h1 := den_eval st x
  unfold xentry at hx
  split at hx
  · rename_i l b e1
    rw [e1] at h1
    split at hx
    · rename_i b' lm m clk seen e2
      split at hx
      · rename_i m' β kd enc es clk' e3
        obtain ⟨⟨rfl, rfl, rfl⟩, hx⟩ := hx
        obtain ⟨hks, ents, hmap, hst, he⟩ := hr.mapS e3
        obtain ⟨c, L, hc, hH, hput⟩ := hr.get e2
        have hc : c = [(b', .mapIter (some m') clk' seen.toArray clk')] := hc
        subst hc
        have hit := hH.heap .here
        have hm1 : (actOf st).eval x = .pointer (some ⟨b', 0, none⟩) := h1.symm
        have main : ∀ (k : Key) (born : Nat) (v : β) (seen0 : List Nat), (k, born, v) ∈ es → seen = snoc seen0 born → N (st.put o.dst (.tuple [k.sv, enc v])) → o.wp P (actOf st) w K Q := by
          intro k born v seen0 hem hs hn
          obtain ⟨a, ha, g1, g2, g3⟩ := stamp_mem he hem
          dsimp only at g1 g2 g3
          have hit' : w.heap[b']? = some (.mapIter (some m') clk' (seen0.toArray.push a.born) clk') := by
            rw [hit, hs, snoc_eq, ← g2]; simp
          have hrun := run_entry_at (P := P) w b' m' clk' seen0.toArray ents.toArray clk' a hit' hmap (by simpa using ha) (by simpa using hst.1)
          unfold Oper.wp
          have hex : (execOp (actOf st).eval o).run P w = .ok (.value (.tuple #[a.key, a.val])) w := by
            simp only [execOp, ho, Sem.run_bind, hm1, hrun, Result.andThen_ok, Sem.run_pure]
          rw [hex]
          have h5 := hN _ hn w (by rw [heap_put]; exact hr)
          rw [actOf_put] at h5
          show K ((actOf st).put o.dst (.tuple #[a.key, a.val])) _
          rw [← g1, ← g3]
          exact h5
        cases kd with
        | some kk =>
          cases kk with
          | tup lk =>
            obtain ⟨ks, hks', born, v, seen0, h1, h2, h3⟩ := exKV_at lk _ hx
            exact main _ born v seen0 h1 h2 h3
          | ofInt kk =>
            obtain ⟨n, born, v, seen0, h1, h2, h3⟩ := hx
            exact main _ born v seen0 h1 h2 h3
        | none =>
          obtain ⟨n, born, v, seen0, h1, h2, h3⟩ := hx
          exact main _ born v seen0 h1 h2 h3
      · exact hS hx
    · exact hS hx
  · exact hS hx
end

def xslice3 (P : Program) (st : Sy) (dst : Option Tmp) (t : TypeId) (x hi mx : Operand) (N : Sy → Prop) (S : Prop) : Prop :=
  match P.underlying t, st.eval x, st.eval hi, st.eval mx with
  | some (.slice _), .vec l ao n cap, .int _ a, .int _ b => match nth st.heap l, tslice P t with
    | some ⟨.sl ao' cap', .vecL T sz enc xs d⟩, some _ => (ao' = ao ∧ cap' = cap ∧ n = xs.length ∧ a = (n : Int) ∧ b = (n : Int)) ∧ N (({ st with heap := setN st.heap l ⟨.sl ao n, .vecL T sz enc xs d⟩ } : Sy).put dst (.vec l ao n n))
    | _, _ => S
  | _, _, _, _ => S
theorem Own.tight {e : TypeId} {sz : Nat} {ao : Option Addr} {n cap : Nat} {xs : List Value} {c : Ch} (ho : Own e sz ao n cap xs c) : Own e sz ao n n xs c := by
  obtain ⟨h1, h2, h3⟩ := ho
  refine ⟨h1, Nat.le_refl _, ?_⟩
  rcases h3 with ⟨a, b, c⟩ | ⟨g, off, cur, a, b, c, d⟩
  · exact .inl ⟨a, by omega, c⟩
  · exact .inr ⟨g, off, cur, a, b, Nat.le_trans (Nat.add_le_add_left (Nat.mul_le_mul_right _ h2) _) c, d⟩
section
variable {P : Program} {W w : World} {F : List Ch} {st : Sy} {o : Oper} {Q : Exit → Act → World → Prop} {K : Act → World → Prop} {N : Sy → Prop}
theorem sound_xslice3 (S : Prop) {t : TypeId} {x hi mx : Operand} (ho : o.op = .slice t x none (some hi) (some mx)) (hN : ∀ st', N st' → ∀ w', Rep W F st'.heap w' → K (actOf st') w') (hr : Rep W F st.heap w)
    (hx : xslice3 P st o.dst t x hi mx N S) (hS : S → o.wp P (actOf st) w K Q) : o.wp P (actOf st) w K Q := by
  have h1 := den_eval st x
  have h2 := den_eval st hi
  have h3 := den_eval st mx
  have sb := @run_sliceBound P w
  unfold xslice3 at hx
  split at hx
  · rename_i e l ao n cap k a k2 b e0 e1 e2 e3
    rw [e1] at h1; rw [e2] at h2; rw [e3] at h3
    split at hx
    · rename_i ao' cap' α T sz enc xs d q e4 e5
      obtain ⟨⟨rfl, rfl, rfl, rfl, rfl⟩, hx⟩ := hx
      obtain ⟨c, L, ⟨hO, hel⟩, hH, hput⟩ := hr.get e4
      obtain ⟨i, hi, hsz⟩ : ∃ i, P.info? e = some i ∧ True := by
        unfold tslice at e5; rw [e0] at e5
        obtain ⟨i, hi, he⟩ := Option.map_eq_some_iff.1 e5
        exact ⟨i, hi, trivial⟩
      have hr2 : Rep W F (setN st.heap l ⟨.sl ao' xs.length, .vecL T sz enc xs d⟩) w := hput _ c w ⟨hO.tight, hel⟩ hH
      have hcap := hO.2.1
      refine sound_pure (st := { st with heap := setN st.heap l ⟨.sl ao' xs.length, .vecL T sz enc xs d⟩ }) hN hr2 _ ?_ hx
      have f1 : (actOf { st with heap := setN st.heap l ⟨.sl ao' xs.length, .vecL T sz enc xs d⟩ }).eval = (actOf st).eval := rfl
      rw [f1]
      simp [execOp, ho, ← h1, ← h2, ← h3, den, Instr.sliceAt, Instr.slice, Instr.sliceBounds, underlying, e0, sb k2 (xs.length : Int) cap' _ (by omega) (by omega), sb k (xs.length : Int) xs.length _ (by omega) (by omega), sizeOf, typeInfo, hi]
      intro hne
      obtain ⟨g, off, rfl⟩ := hO.some (List.length_pos_iff.2 hne)
      simp [Addr.add_mid']
    · exact hS hx
  · exact hS hx
def isB2s (P : Program) (src d : TypeId) : Bool := match P.underlying src, P.underlying d with
  | some (.slice e), some .string => match P.underlying e with
    | some (.int .u8) => true
    | _ => false
  | _, _ => false
def xb2s (st : Sy) (dst : Option Tmp) (x : SV) (N : Sy → Prop) (S : Prop) : Prop :=
  match x with
  | .vec l ao n _ => match nth st.heap l with
    | some ⟨.blk b, .cells cs _⟩ => (ao = some ⟨b, 0, none⟩ ∧ n = lenN cs) ∧ ∃ bs : List UInt8, denL cs = bs.map (fun c => Value.int .u8 (c.toNat : Int)) ∧ N (st.put dst (.str ⟨bs.toArray⟩))
    | _ => S
  | _ => S
theorem sound_xb2s (S : Prop) {src d : TypeId} {x : Operand} (hb : isB2s P src d = true) (ho : o.op = .convert src d x) (hN : ∀ st', N st' → ∀ w', Rep W F st'.heap w' → K (actOf st') w') (hr : Rep W F st.heap w)
    (hx : xb2s st o.dst (st.eval x) N S) (hS : S → o.wp P (actOf st) w K Q) : o.wp P (actOf st) w K Q := by
  have h1 := den_eval st x
  unfold xb2s at hx
  split at hx
  · rename_i l ao n cap e1
    rw [e1] at h1
    split at hx
    · rename_i b cs T e4
      obtain ⟨⟨rfl, rfl⟩, bs, hbs, hx⟩ := hx
      unfold isB2s at hb
      split at hb
      · rename_i e g1 g2
        split at hb
        · rename_i g3
          have hl : lenN cs = bs.length := by
            have := congrArg List.length hbs
            rw [lenN_eq]
            simpa [denL_eq] using this
          refine sound_pure hN hr _ ?_ hx
          have hc := run_convert_bytes_back (P := P) w src d e ⟨b, 0, none⟩ cap bs g1 g3 g2 (fun j hj => by
            rw [Addr.add_mid', hr.cells e4, hbs]
            simp [hj])
          simp only [execOp, ho, ← h1, den, hl]
          simp [hc]
        · cases hb
      · cases hb
    · exact hS hx
  · exact hS hx
end
def xop (P : Program) (Cs : Tbl) (st : Sy) (o : Oper) (N : Sy → Prop) (S : Prop) : Prop :=
  match o.op with
  | .store t x y => match o.dst with
    | none => xstore P st t (st.eval x) (st.eval y) N S
    | some _ => S
  | .alloc T => match tzero P T with
    | some cs => newCells st o.dst cs T N
    | none => S
  | .box T x => allOne (cellsOf (st.eval x)) = true ∧ newCells st o.dst (cellsOf (st.eval x)) T N
  | .buildSlice t n parts => xbuildSlice P st o.dst t n parts.toList N S
  | .call ⟨.value fv, xs, _⟩ => xcall P Cs st o.dst fv xs.toList N S
  | .call ⟨.invoke x name, xs, _⟩ => xinvoke P Cs st o.dst x name xs.toList N S
  | .mapUpdate t x i y => match o.dst with
    | none => xmapUpdate P st t (st.eval x) (st.eval i) (st.eval y) N S
    | some _ => S
  | .insert t x i y => match o.dst with
    | none => xmapUpdate P st t (st.eval x) (st.eval i) (st.eval y) N S
    | some _ => S
  | .makeMap t none => xmakeMap P st o.dst t N
  | .range t x => xrange P st o.dst t (st.eval x) N S
  | .next x false => xnext P st o.dst (st.eval x) N S
  | .entry x => xentry P st o.dst (st.eval x) N S
  | .call ⟨.builtin .delete, ⟨[x, i]⟩, ⟨[t, _]⟩⟩ => xdelete P st o.dst t (st.eval x) (st.eval i) N S
  | .call ⟨.builtin .clear, ⟨[x]⟩, ⟨[t]⟩⟩ => match st.eval x with
    | .sub l ao cap sz lo hi => xclearS P st o.dst t l ao cap sz lo hi N S
    | v => xclear P st o.dst t v N S
  | .call ⟨.builtin .append, ⟨[x, y]⟩, ⟨[t, t']⟩⟩ => match Nat.beq t t' with
    | true => xappend P st o.dst t (st.eval x) (st.eval y) N S
    | false => S
  | .call ⟨.builtin .copy, ⟨[x, y]⟩, ⟨[t, t']⟩⟩ => match Nat.beq t t' with
    | true => xcopy P st o.dst t (st.eval x) (st.eval y) N S
    | false => S
  | .slice t x none (some hi) (some mx) => xslice3 P st o.dst t x hi mx N S
  | .convert src d x => match isB2s P src d with
    | true => xb2s st o.dst (st.eval x) N S
    | false => (xres P st (.convert src d x)).holds (fun v => N (st.put o.dst v)) S
  | op => (xres P st op).holds (fun v => N (st.put o.dst v)) S

section
variable {Cs : Tbl} {P : Program} {W w : World} {F : List Ch} {st : Sy} {o : Oper} {Q : Exit → Act → World → Prop} {K : Act → World → Prop} {N : Sy → Prop}

theorem sound_xop (hC : AllOk P Cs) (S : Prop) (hN : ∀ st', N st' → ∀ w', Rep W F st'.heap w' → K (actOf st') w') (hr : Rep W F st.heap w) (hx : xop P Cs st o N S) (hS : S → o.wp P (actOf st) w K Q) : o.wp P (actOf st) w K Q := by
  unfold xop at hx
  split at hx
  · rename_i t x y ho
    split at hx
    · rename_i hd; exact sound_xstore S t x y ho hd hN hr hx hS
    · exact hS hx
  · rename_i T ho
    split at hx
    · rename_i cs hz; exact sound_alloc T ho cs hz hN hr hx
    · exact hS hx
  · rename_i T x ho; exact sound_box T x ho hx.1 hN hr hx.2
  · rename_i t n parts ho; exact sound_xbuildSlice S t n parts ho hN hr hx hS
  · rename_i fv xs ts ho; exact sound_xcall hC S ho hN hr hx hS
  · rename_i x name xs ts ho; exact sound_xinvoke hC S ho hN hr hx hS
  · rename_i t x i y ho
    split at hx
    · rename_i hd; exact sound_xmapUpdate S t x i y ho hd hN hr hx hS
    · exact hS hx
  · rename_i t x i y ho
    split at hx
    · rename_i hd; exact sound_insert S t x i y ho hd hN hr hx hS
    · exact hS hx
  · rename_i t ho; exact sound_xmakeMap t ho hN hr hx
  · rename_i t x ho; exact sound_xrange S t x ho hN hr hx hS
  · rename_i x ho; exact sound_xnext S x ho hN hr hx hS
  · rename_i x ho; exact sound_xentry S x ho hN hr hx hS
  · rename_i x i t t1 ho; exact sound_xdelete S t t1 x i ho hN hr hx hS
  · rename_i x t ho
    split at hx
    · rename_i l ao cap sz lo hi hv; exact sound_xclearS S t x l ao cap sz lo hi ho hv hN hr hx hS
    · exact sound_xclear S t x ho hN hr hx hS
  · rename_i x y t t' ho
    split at hx
    · rename_i ht
      rw [Nat.beq_eq] at ht
      subst ht
      exact sound_xappend S ho hN hr hx hS
    · exact hS hx
  · rename_i x y t t' ho
    split at hx
    · rename_i ht
      rw [Nat.beq_eq] at ht
      subst ht
      exact sound_xcopy S ho hN hr hx hS
    · exact hS hx
  · rename_i t x hi mx ho; exact sound_xslice3 S ho hN hr hx hS
  · rename_i src d x ho
    split at hx
    · rename_i hb; exact sound_xb2s S hb ho hN hr hx hS
    · exact yields_xres S hr (fun v h1 h2 => sound_pure hN hr v h1 h2) (by rw [ho]; exact hx) hS
  · exact yields_xres S hr (fun v h1 h2 => sound_pure hN hr v h1 h2) hx hS
end

def isUndef : SV → Bool
  | .raw (.tuple vs) => vs.size == 0
  | _ => false

def slotOf (ops : Array Oper) (g : Nat) : Option Tmp :=
  match nth ops.toList g with
  | some o => o.dst
  | none => none
theorem slotOf_eq (ops : Array Oper) (g : Nat) : slotOf ops g = (ops[g]?).bind (·.dst) := by
  unfold slotOf
  rw [nth_eq, Array.getElem?_toList]
  cases ops[g]? <;> rfl

def xguard (P : Program) (Cs : Tbl) (ops : Array Oper) (st : Sy) (o : Oper) (N : Sy → Prop) (S : Prop) : Prop :=
  match o.guard with
  | none => xop P Cs st o N S
  | some (g, want) => match slotOf ops g with
    | some t => match nth st.tmps t with
      | some (.bool b) => match want with
        | true => match b with
          | true => xop P Cs { st with tmps := setN st.tmps t (.bool true) } o N S
          | false => N (({ st with tmps := setN st.tmps t (.bool false) } : Sy).put o.dst (.raw undef))
        | false => match b with
          | true => N (({ st with tmps := setN st.tmps t (.bool true) } : Sy).put o.dst (.raw undef))
          | false => xop P Cs { st with tmps := setN st.tmps t (.bool false) } o N S
      | some v => isUndef v = true ∧ N (st.put o.dst (.raw undef))
      | none => S
    | none => S

section
variable {Cs : Tbl} {P : Program} {W w : World} {F : List Ch} {st : Sy} {o : Oper} {Q : Exit → Act → World → Prop} {ops : Array Oper} {rest : List Oper} {N : Sy → Prop}

theorem actOf_same (t : Nat) (b : Bool) (h : nth st.tmps t = some (.bool b)) : actOf { st with tmps := setN st.tmps t (.bool b) } = actOf st := by
  unfold actOf
  simp only [setN_eq]
  rw [nth_eq] at h
  obtain ⟨hlt, he⟩ := List.getElem?_eq_some_iff.1 h
  rw [← he, List.set_getElem_self]

theorem yielded_slot {g t : Nat} (ht : slotOf ops g = some t) : yielded ops (actOf st).tmps g = match (nth st.tmps t).map den with | some (.bool b) => some b | _ => none := by
  unfold yielded
  rw [← slotOf_eq, ht]
  simp only [Option.bind_some, actOf, nth_eq, denL_eq, List.getElem?_toArray, List.getElem?_map]
  cases st.tmps[t]? <;> rfl

theorem sound_xguard (hC : AllOk P Cs) (S : Prop) (hN : ∀ st', N st' → ∀ w', Rep W F st'.heap w' → wpList P ops Q rest (actOf st') w') (hr : Rep W F st.heap w) (hx : xguard P Cs ops st o N S)
    (hS : S → ∀ w, Rep W F st.heap w → wpList P ops Q (o :: rest) (actOf st) w) (hS2 : ∀ t b, nth st.tmps t = some (.bool b) → S → wpList P ops Q (o :: rest) (actOf st) w) : wpList P ops Q (o :: rest) (actOf st) w := by
  unfold xguard at hx
  split at hx
  · rename_i hg
    by_cases hs : S
    · exact hS hs w hr
    · refine wpList_plain hg fun K hK => ?_
      exact sound_xop hC S (fun st' h1 w' h2 => hK _ _ (hN st' h1 w' h2)) hr hx (fun h => (hs h).elim)
  · rename_i g want hg
    split at hx
    · rename_i t ht
      have hy := yielded_slot (st := st) ht
      split at hx
      · rename_i b hb
        rw [hb] at hy
        simp only [Option.map_some, den] at hy
        have yes : ∀ bb : Bool, b = bb → want = bb → xop P Cs { st with tmps := setN st.tmps t (.bool bb) } o N S → wpList P ops Q (o :: rest) (actOf st) w := by
          intro bb e1 e2 h1
          subst e1; subst e2
          by_cases hs : S
          · exact hS hs w hr
          · refine wpList_step fun K hK => ?_
            rw [if_pos (by simp [Region.wanted, hg, hy])]
            have hsame := actOf_same t want hb
            rw [← hsame]
            exact sound_xop hC S (fun st' h1 w' h2 => hK _ _ (hN st' h1 w' h2)) (st := { st with tmps := setN st.tmps t (.bool want) }) hr h1 (fun h => (hs h).elim)
        have no : ∀ bb : Bool, b = bb → want = !bb → N (({ st with tmps := setN st.tmps t (.bool bb) } : Sy).put o.dst (.raw undef)) → wpList P ops Q (o :: rest) (actOf st) w := by
          intro bb e1 e2 h1
          subst e1; subst e2
          refine wpList_step fun K hK => ?_
          rw [if_neg (by simp [Region.wanted, hg, hy])]
          have hsame := actOf_same t b hb
          have h2 := hN _ h1 w (by rw [heap_put]; exact hr)
          rw [actOf_put, hsame] at h2
          exact hK _ _ h2
        cases want <;> cases b
        · exact yes false rfl rfl hx
        · exact no true rfl rfl hx
        · exact no false rfl rfl hx
        · exact yes true rfl rfl hx
      · rename_i v hnb hv
        obtain ⟨hu, hx⟩ := hx
        rw [hv] at hy
        have hd : den v = .tuple #[] := by
          unfold isUndef at hu
          split at hu
          · rename_i vs
            have : vs = #[] := by apply Array.eq_empty_of_size_eq_zero; simpa using hu
            subst this; rfl
          · cases hu
        simp only [Option.map_some, hd] at hy
        refine wpList_step fun K hK => ?_
        rw [if_neg (by simp [Region.wanted, hg, hy])]
        have h2 := hN _ hx w (by rw [heap_put]; exact hr)
        rw [actOf_put] at h2
        exact hK _ _ h2
      · exact hS hx w hr
    · exact hS hx w hr
end
end Go.Proofs.Ytkcmgcoppecfpaa

