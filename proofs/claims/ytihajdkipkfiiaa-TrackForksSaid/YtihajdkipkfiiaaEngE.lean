/- The symbolic executor: functions, calls, loops, ends. -/
import Derived.Test.YtihajdkipkfiiaaDraw
import Derived.Deep.LoopGhost
namespace Go.Proofs.Ytihajdkipkfiiaa
open Go Go.RowKit
set_option linter.unusedVariables false
set_option linter.unusedSimpArgs false
set_option linter.unnecessarySimpa false
universe u
set_option linter.unusedVariables false

/-! ### Picking entries -/

def pickE (h : List Ent) : List Nat → Option (List Ent)
  | [] => some []
  | i :: π => match nth h i, pickE h π with
    | some e, some l => some (e :: l)
    | _, _ => none

def appE : List Ent → List Ent → List Ent
  | [], l => l
  | e :: h, l => e :: appE h l
theorem appE_eq (h l : List Ent) : appE h l = h ++ l := by
  induction h with
  | nil => rfl
  | cons e h ih => simp [appE, ih]

def putBack : List Nat → List Ent → List Ent → List Ent
  | [], h, h' => appE h h'
  | _ :: _, h, [] => h
  | i :: π, h, e :: h' => putBack π (setN h i e) h'

theorem HasAll.append {W : World} : ∀ {h h' : List Ent} {cs cs' : List Ch}, HasAll W h cs → HasAll W h' cs' → HasAll W (h ++ h') (cs ++ cs')
  | [], h', cs, cs', ha, ha' => by
    have : cs = [] := ha
    subst this; exact ha'
  | e :: h, h', cs, cs', ha, ha' => by
    obtain ⟨c, cs0, rfl, hc, ha⟩ := ha
    exact ⟨c, cs0 ++ cs', rfl, hc, ha.append ha'⟩

theorem putBack_set (i : Nat) (e : Ent) : ∀ (π : List Nat) (h h' : List Ent), i ∉ π → i < h.length → putBack π (h.set i e) h' = (putBack π h h').set i e
  | [], h, h', _, hi => by simp only [putBack, appE_eq]; rw [List.set_append_left _ _ hi]
  | _ :: _, h, [], _, _ => rfl
  | j :: π, h, e' :: h', hn, hi => by
    simp only [List.mem_cons, not_or] at hn
    simp only [putBack, setN_eq]
    rw [List.set_comm _ _ hn.1, putBack_set i e π _ h' hn.2 (by simpa using hi)]

theorem putBack_get (i : Nat) : ∀ (π : List Nat) (h h' : List Ent), i ∉ π → i < h.length → (putBack π h h')[i]? = h[i]?
  | [], h, h', _, hi => by simp only [putBack, appE_eq]; rw [List.getElem?_append_left hi]
  | _ :: _, h, [], _, _ => rfl
  | j :: π, h, e' :: h', hn, hi => by
    simp only [List.mem_cons, not_or] at hn
    simp only [putBack, setN_eq]
    rw [putBack_get i π _ h' hn.2 (by simpa using hi), List.getElem?_set_ne (fun e => hn.1 e.symm)]

theorem pickE_set (i : Nat) (e : Ent) (h : List Ent) : ∀ (π : List Nat), i ∉ π → pickE (h.set i e) π = pickE h π
  | [], _ => rfl
  | j :: π, hn => by
    simp only [List.mem_cons, not_or] at hn
    simp only [pickE, pickE_set i e h π hn.2, nth_eq]
    rw [List.getElem?_set_ne hn.1]

theorem HasAll.pick {W : World} : ∀ (π : List Nat) (h hp : List Ent), π.Nodup → pickE h π = some hp → ∀ cs, HasAll W h cs → ∃ cp G, HasAll W hp cp ∧ cs.flatten.Perm (cp ++ G).flatten ∧
    ∀ h' cs', hp.length ≤ h'.length → HasAll W h' cs' → ∃ r, HasAll W (putBack π h h') r ∧ (cs' ++ G).flatten.Perm r.flatten
  | [], h, hp, _, hpk, cs, ha => by
    simp only [pickE, Option.some.injEq] at hpk
    subst hpk
    refine ⟨[], cs, rfl, by simp, fun h' cs' _ ha' => ⟨cs ++ cs', ?_, ?_⟩⟩
    · simp only [putBack, appE_eq]; exact ha.append ha'
    · simp only [List.flatten_append]; exact List.perm_append_comm
  | i :: π, h, hp, hnd, hpk, cs, ha => by
    rw [List.nodup_cons] at hnd
    simp only [pickE] at hpk
    split at hpk
    · rename_i e l he hl
      cases hpk
      rw [nth_eq] at he
      have hlt : i < h.length := (List.getElem?_eq_some_iff.1 he).1
      obtain ⟨c, x, y, rfl, hc, hs⟩ := ha.get he
      have h0 := hs ⟨e.loc, .gone⟩ [] (by cases e.loc <;> rfl)
      obtain ⟨cp, G, h1, h2, h3⟩ := HasAll.pick π (h.set i ⟨e.loc, .gone⟩) l hnd.2 (by rw [pickE_set i _ h π hnd.1]; exact hl) _ h0
      refine ⟨c :: cp, G, ⟨c, cp, rfl, hc, h1⟩, ?_, ?_⟩
      · simp only [List.flatten_append, List.flatten_cons, List.nil_append, List.cons_append] at h2 ⊢
        refine List.Perm.trans ?_ (List.Perm.append_left c h2)
        rw [← List.append_assoc, ← List.append_assoc]
        exact List.Perm.append_right _ List.perm_append_comm
      · intro h' cs' hlen ha'
        cases h' with
        | nil => simp at hlen
        | cons e' h'' =>
          obtain ⟨c', cs'', rfl, hc', ha''⟩ := ha'
          obtain ⟨r, hr1, hr2⟩ := h3 h'' cs'' (by simpa using hlen) ha''
          have hi : (putBack π (h.set i ⟨e.loc, .gone⟩) h'')[i]? = some ⟨e.loc, .gone⟩ := by
            rw [putBack_get i π _ _ hnd.1 (by simpa using hlt)]; simp [hlt]
          obtain ⟨c0, x0, y0, rfl, hc0, hs0⟩ := hr1.get hi
          have hc0' : c0 = [] := by revert hc0; cases e.loc <;> exact id
          subst hc0'
          refine ⟨x0 ++ c' :: y0, ?_, ?_⟩
          · simp only [putBack, setN_eq]
            have h5 := hs0 e' c' hc'
            rw [putBack_set i _ π h h'' hnd.1 hlt] at h5
            rw [putBack_set i _ π h h'' hnd.1 hlt]
            simpa using h5
          · simp only [List.flatten_append, List.flatten_cons, List.nil_append, List.cons_append] at hr2 ⊢
            refine (List.Perm.append_left c' hr2).trans ?_
            rw [← List.append_assoc, ← List.append_assoc]
            exact List.Perm.append_right _ List.perm_append_comm
    · cases hpk

section
variable {W w : World} {F : List Ch}

/-- Some entries alone, the others in the frame; and back. -/
theorem Rep.frame {π : List Nat} {h hp : List Ent} (hnd : π.Nodup) (hpk : pickE h π = some hp) (hr : Rep W F h w) :
    ∃ F', Rep W F' hp w ∧ ∀ h' w', hp.length ≤ h'.length → Rep W F' h' w' → Rep W F (putBack π h h') w' := by
  obtain ⟨cs, ha, hH⟩ := hr
  obtain ⟨cp, G, h1, h2, h3⟩ := ha.pick π h hp hnd hpk cs
  refine ⟨G ++ F, ⟨cp, h1, hH.perm ?_⟩, ?_⟩
  · simp only [List.flatten_append] at h2 ⊢
    rw [← List.append_assoc]
    exact List.Perm.append_right _ h2
  · rintro h' w' hlen ⟨cs', ha', hH'⟩
    obtain ⟨r, hr1, hr2⟩ := h3 h' cs' hlen ha'
    refine ⟨r, hr1, hH'.perm ?_⟩
    simp only [List.flatten_append] at hr2 ⊢
    rw [← List.append_assoc]
    exact List.Perm.append_right _ hr2

/-- Some entries alone; the others are forgotten. -/
theorem Rep.pick {π : List Nat} {h hp : List Ent} (hnd : π.Nodup) (hpk : pickE h π = some hp) (hr : Rep W F h w) : Rep W F hp w := by
  obtain ⟨cs, ha, hH⟩ := hr
  obtain ⟨cp, G, h1, h2, _⟩ := ha.pick π h hp hnd hpk cs
  refine ⟨cp, h1, ?_⟩
  have : H W w (G ++ (cp ++ F)) := hH.perm (by
    simp only [List.flatten_append] at h2 ⊢
    refine (List.Perm.append_right _ h2).trans ?_
    rw [← List.append_assoc]
    exact List.Perm.append_right _ List.perm_append_comm)
  exact this.dropL

/-- Each entry may be said otherwise. -/
def Imp (W : World) : List Ent → List Ent → Prop
  | [], [] => True
  | e :: h, e' :: h' => (∀ c, has W e.loc e.obj c → has W e'.loc e'.obj c) ∧ Imp W h h'
  | _, _ => False

theorem HasAll.imp : ∀ {h h' : List Ent} {cs : List Ch}, Imp W h h' → HasAll W h cs → HasAll W h' cs
  | [], [], _, _, ha => ha
  | e :: h, e' :: h', cs, hi, ha => by
    obtain ⟨c, cs', rfl, hc, ha⟩ := ha
    exact ⟨c, cs', rfl, hi.1 c hc, ha.imp hi.2⟩
  | [], _ :: _, _, hi, _ => hi.elim
  | _ :: _, [], _, hi, _ => hi.elim

theorem Rep.imp {h h' : List Ent} (hi : Imp W h h') (hr : Rep W F h w) : Rep W F h' w := by
  obtain ⟨cs, ha, hH⟩ := hr
  exact ⟨cs, ha.imp hi, hH⟩
end

def distinct : List Nat → Bool
  | [] => true
  | i :: l => !l.contains i && distinct l
theorem distinct_nodup : ∀ l : List Nat, distinct l = true → l.Nodup
  | [], _ => List.nodup_nil
  | i :: l, h => by
    simp only [distinct, Bool.and_eq_true, Bool.not_eq_true', List.contains_eq_mem, decide_eq_false_iff_not] at h
    exact List.nodup_cons.2 ⟨h.1, distinct_nodup l h.2⟩

/-! ### Functions -/

def padTo : Nat → List SV → List SV
  | 0, _ => []
  | n + 1, [] => .raw undef :: padTo n []
  | n + 1, v :: l => v :: padTo n l

theorem padTo_eq : ∀ (n : Nat) (l : List SV), l.length ≤ n → denL (padTo n l) = denL l ++ List.replicate (n - l.length) undef
  | 0, l, h => by
    have : l = [] := List.eq_nil_of_length_eq_zero (by omega)
    subst this; rfl
  | n + 1, [], _ => by
    simp only [padTo, denL, List.nil_append, List.length_nil, Nat.sub_zero, List.replicate_succ]
    rw [padTo_eq n [] (by simp)]
    simp [den, denL]
  | n + 1, v :: l, h => by
    simp only [padTo, denL, List.cons_append, List.length_cons, Nat.add_sub_add_right]
    rw [padTo_eq n l (by simpa using h)]

/-- What the function's end must come to. -/
def endQ (P : Program) (fn : Func) (W : World) (F : List Ch) (Post : List Ent → SV → Prop) : Exit → Act → World → Prop :=
  bodyPost P fn fun e w' => ∃ h' r, Post h' r ∧ e = .returned (den r) ∧ Rep W F h' w'

theorem Spec.of_G {P : Program} {f : FuncId} {hs : List Ent} {args : List SV} {Post : List Ent → SV → Prop} {fn : Func} {c : Code} (n : Nat) (hf : P.funcs[f]? = some fn) (hb : fn.body = some c) (hn : fn.ntmps = n) (hl : lenN args ≤ n)
    (hg : ∀ W F, G P (endQ P fn W F Post) W F [.code c] ⟨padTo n args, hs⟩) : Spec P f hs args Post := by
  intro W F w hr
  refine calls_of_wp hf hb ?_
  have h1 := hg W F w hr
  rw [lenN_eq] at hl
  have : (actOf ⟨padTo n args, hs⟩) = ⟨(denL args).toArray ++ Array.replicate (fn.ntmps - (denL args).toArray.size) undef, []⟩ := by
    unfold actOf
    congr 1
    rw [padTo_eq n args hl, hn]
    apply Array.ext'
    simp [length_denL]
  rw [← this]
  exact h1

/-- A result variable's value. -/
def resOne (P : Program) (st : Sy) : ResultVar → Res
  | .tmp t => .ok (st.eval (.tmp t))
  | .cell t ty => xload P st ty (st.eval (.tmp t))
def resK (P : Program) (st : Sy) : List ResultVar → (List SV → Prop) → Prop
  | [], N => N []
  | x :: l, N => (resOne P st x).holds (fun v => resK P st l fun vs => N (v :: vs)) False
def resTuple : List SV → SV
  | [v] => v
  | vs => .tuple vs

section
variable {P : Program} {W w : World} {F : List Ch} {st : Sy}

def resSem (tmps : Array Value) : ResultVar → Sem Value
  | .tmp t => pure (tmps.getD t undef)
  | .cell a t => do loadVar t (← asAddr (tmps.getD a undef))

theorem run_resK (hr : Rep W F st.heap w) : ∀ (l : List ResultVar) (N : List SV → Prop), resK P st l N →
    ∃ vs, N vs ∧ (l.mapM (resSem (actOf st).tmps)).run P w = .ok (denL vs) w
  | [], N, h => ⟨[], h, rfl⟩
  | x :: l, N, h => by
    have key : ∀ v : SV, (resSem (actOf st).tmps x).run P w = .ok (den v) w → resK P st l (fun vs => N (v :: vs)) → ∃ vs, N vs ∧ ((x :: l).mapM (resSem (actOf st).tmps)).run P w = .ok (denL vs) w := by
      intro v h1 h2
      obtain ⟨vs, h3, h4⟩ := run_resK hr l _ h2
      refine ⟨v :: vs, h3, ?_⟩
      rw [List.mapM_cons]
      simp only [Sem.run_bind, h1, Result.andThen_ok, h4, Sem.run_pure, denL]
    simp only [resK] at h
    cases x with
    | tmp t =>
      refine key _ ?_ h
      have := den_eval st (.tmp t)
      rw [this]; rfl
    | cell t ty =>
      let o : Oper := { (default : Oper) with op := .load ty (.tmp t) }
      refine yields_xload (P := P) (W := W) (w := w) (F := F) (st := st) (o := o) False ty (.tmp t) rfl hr (fun v h1 h2 => key v ?_ h2) h False.elim
      simp only [execOp, o, Instr.loadAt, Sem.run_bind] at h1
      unfold resSem
      have hev : (actOf st).eval (.tmp t) = (actOf st).tmps.getD t undef := rfl
      rw [hev] at h1
      cases hv : (actOf st).tmps.getD t undef <;> rw [hv] at h1 <;> simp [Instr.sureAddr, asAddr] at h1 ⊢
      rename_i ao
      rw [Array.getD_eq_getD_getElem?] at hv
      rw [hv]
      cases ao with
      | none => simp [stuck] at h1
      | some a =>
        simp only [Sem.run_pure, Result.andThen_ok] at h1 ⊢
        cases hl : Sem.run P (loadVar ty a) w with
        | ok x w' => rw [hl] at h1; simpa using h1
        | halt x w' => rw [hl] at h1; simp [Result.andThen] at h1

theorem Fin_intro {fn : Func} {Post : List Ent → SV → Prop} (hv : resK P st fn.results.toList fun vs => Post st.heap (resTuple vs)) :
    Fin (endQ P fn W F Post) W F st := by
  intro w hr
  obtain ⟨vs, hp, hm⟩ := run_resK hr fn.results.toList _ hv
  refine ⟨rfl, den (resTuple vs), ?_, _, _, hp, rfl, hr⟩
  have e : results fn (actOf st).tmps = (do let vs ← fn.results.mapM (resSem (actOf st).tmps); pure (if h : vs.size = 1 then vs[0] else .tuple vs) : Sem Value) := by
    unfold results
    congr 2
  rw [e, Sem.run_bind, Array.mapM_eq_mapM_toList, Sem.run_map, hm]
  simp only [Result.andThen_ok, Sem.run_pure]
  congr 1
  cases vs with
  | nil => rfl
  | cons v vs =>
    cases vs with
    | nil => rfl
    | cons u vs => simp [resTuple, den, denL]

theorem G_end {fn : Func} {Post : List Ent → SV → Prop} (h : Fin (endQ P fn W F Post) W F st) : G P (endQ P fn W F Post) W F [] st := fun w hr => h w hr
end


/-! ### Calls -/

/-- Is the operation carried out? -/
def wantedS (ops : Array Oper) (st : Sy) (o : Oper) : Prop :=
  match o.guard with
  | none => True
  | some (g, want) => match slotOf ops g with
    | some t => match nth st.tmps t with
      | some (.bool b) => b = want
      | _ => False
    | none => False

theorem wanted_of {ops : Array Oper} {st : Sy} {o : Oper} (h : wantedS ops st o) : Region.wanted o (yielded ops (actOf st).tmps) = true := by
  unfold wantedS at h
  unfold Region.wanted
  split at h
  · rename_i hg; rw [hg]
  · rename_i g want hg
    rw [hg]
    split at h
    · rename_i t ht
      have hy := yielded_slot (st := st) ht
      split at h
      · rename_i b hb
        rw [hb] at hy
        subst h
        simp only [hy, Option.map_some, den]; simp
      · exact h.elim
    · exact h.elim

section
variable {P : Program} {W w : World} {F : List Ch} {st : Sy} {o : Oper} {ops : Array Oper} {l : List Oper} {k : List Frm} {Q : Exit → Act → World → Prop}

theorem wpList_wanted {K : Act → World → Prop} {a : Act} (hw : Region.wanted o (yielded ops a.tmps) = true) (h : o.wp P a w (wpList P ops Q l) Q) : wpList P ops Q (o :: l) a w := by
  refine wpList_step fun K hK => ?_
  rw [if_pos hw]
  exact Oper.wp_mono hK h

theorem G_call {f : FuncId} {hp : List Ent} {args : List SV} {Post : List Ent → SV → Prop} (hsp : Spec P f hp args Post) (π : List Nat) {fv : Operand} {xs : Array Operand} {ts : Array TypeId} (ho : o.op = .call ⟨.value fv, xs, ts⟩)
    {first captured : List SV} (hfv : st.eval fv = .func (.func f) first captured) (hok : callOk P f = true) (hw : wantedS ops st o) (hnd : distinct π = true) (hpk : pickE st.heap π = some hp)
    (ha : denL first ++ (denL (evals st xs.toList) ++ denL captured) = denL args)
    (hn : ∀ h' r, Post h' r → lenN hp ≤ lenN h' ∧ G P Q W F (.ops ops l :: k) ({ st with heap := putBack π st.heap h' }.put o.dst r)) : G P Q W F (.ops ops (o :: l) :: k) st := by
  intro w hr
  refine wpList_wanted (K := fun _ _ => True) (wanted_of hw) ?_
  have h1 := den_eval st fv
  rw [hfv] at h1
  obtain ⟨F', hr', hback⟩ := hr.frame (distinct_nodup π hnd) hpk
  have hcall := hsp W F' w hr'
  rw [← ha] at hcall
  have hres : (execOp (actOf st).eval o).run P w = .ok (.enter f ((denL first).toArray ++ xs.map (actOf st).eval ++ (denL captured).toArray)) w := by
    unfold callOk at hok
    split at hok
    · rename_i fn hfn
      simp only [Bool.and_eq_true, bne_iff_ne, ne_eq] at hok
      have hb : fn.body.isNone = false := by cases hfb : fn.body <;> simp_all
      simp [execOp, ho, resolve, ← h1, den, Deferred.ofValue, invoke, callFunc, hfn, hok.1]
      intro hnone; rw [hnone] at hb; cases hb
    · cases hok
  unfold Oper.wp
  rw [hres]
  have harr : (denL first).toArray ++ xs.map (actOf st).eval ++ (denL captured).toArray = (denL first ++ (denL (evals st xs.toList) ++ denL captured)).toArray := by
    apply Array.ext'
    simp [denL_evals]
  rw [harr]
  refine Calls.mono hcall ?_
  rintro e w' ⟨h', r, hpost, rfl, hr2⟩
  obtain ⟨hlen, hg⟩ := hn h' r hpost
  rw [lenN_eq, lenN_eq] at hlen
  have h3 := hg w' (by rw [heap_put]; exact hback h' w' hlen hr2)
  rw [actOf_put] at h3
  exact h3

/-- The state may be said otherwise. -/
theorem G_eqv {st' : Sy} (h : G P Q W F k st') (ht : denL st.tmps = denL st'.tmps) (hh : ∀ w, Rep W F st.heap w → Rep W F st'.heap w) : G P Q W F k st := fun w hr => by
  have := h w (hh w hr)
  unfold actOf at *
  rw [ht]; exact this

/-! ### Loops -/

/-- A frame of n slots: those of 'live' as it says, the others whatever they hold. -/
def mkT (u : Nat → Value) : Nat → Nat → List (Nat × SV) → List SV
  | 0, _, _ => []
  | n + 1, t, [] => .raw (u t) :: mkT u n (t + 1) []
  | n + 1, t, (s, v) :: live => if t = s then v :: mkT u n (t + 1) live else .raw (u t) :: mkT u n (t + 1) ((s, v) :: live)

def liveOk (tmps : List SV) : List (Nat × SV) → Prop
  | [] => True
  | (s, v) :: live => (match nth tmps s with | some v' => den v' = den v | none => False) ∧ liveOk tmps live

theorem mkT_eq (u : Nat → Value) (tmps : List SV) (hu : ∀ t, u t = den ((nth tmps t).getD (.raw undef))) : ∀ (n t : Nat) (live : List (Nat × SV)), t + n = tmps.length → liveOk tmps live → denL (mkT u n t live) = (denL tmps).drop t
  | 0, t, live, h, _ => by
    simp only [mkT, denL]
    rw [List.drop_eq_nil_of_le (by rw [length_denL]; omega)]
  | n + 1, t, [], h, hl => by
    have hlt : t < (denL tmps).length := by rw [length_denL]; omega
    have ih := mkT_eq u tmps hu n (t + 1) [] (by omega) hl
    simp only [mkT, denL, den, ih]
    rw [List.drop_eq_getElem_cons hlt, hu t, nth_eq]
    congr 1
    rw [length_denL] at hlt
    simp [hlt, denL_eq]
  | n + 1, t, (s, v) :: live, h, hl => by
    have hlt : t < (denL tmps).length := by rw [length_denL]; omega
    have hlt' : t < tmps.length := by omega
    rw [List.drop_eq_getElem_cons hlt]
    simp only [mkT]
    split
    · rename_i e; subst e
      have ih := mkT_eq u tmps hu n (t + 1) live (by omega) hl.2
      simp only [denL, ih]
      congr 1
      have h1 := hl.1
      rw [nth_eq] at h1
      simp only [List.getElem?_eq_getElem hlt'] at h1
      rw [← h1]; simp [denL_eq]
    · have ih := mkT_eq u tmps hu n (t + 1) ((s, v) :: live) (by omega) hl
      simp only [denL, den, ih]
      rw [hu t, nth_eq]
      congr 1
      simp [hlt', denL_eq]

/-- What a round must hand on. -/
def Back {ι : Type u} (W : World) (F : List Ch) (n : Nat) (live : ι → List (Nat × SV)) (hp : ι → List Ent) (φ : ι → Prop) (μ : ι → Nat) (m : Nat) (a : Act) (w : World) : Prop :=
  ∃ i u, φ i ∧ μ i < m ∧ a = actOf ⟨mkT u n 0 (live i), hp i⟩ ∧ Rep W F (hp i) w

theorem G_loop {ι : Type u} {body : Code} (n : Nat) (live : ι → List (Nat × SV)) (hp : ι → List Ent) (φ : ι → Prop) (μ : ι → Nat) (i0 : ι) (h0 : φ i0) (hlen : lenN st.tmps = n) (hlive : liveOk st.tmps (live i0))
    (hheap : ∀ w, Rep W F st.heap w → Rep W F (hp i0) w)
    (hround : ∀ i, φ i → ∀ u, G P Q W F (.code body :: .loop (Back W F n live hp φ μ (μ i)) :: k) ⟨mkT u n 0 (live i), hp i⟩) : G P Q W F (.code (.loop body) :: k) st := by
  intro w hr
  refine wp_loop_ghost (fun m a w => Back W F n live hp φ μ (m + 1) a w) (μ i0) ?_ ?_
  · refine ⟨i0, fun t => den ((nth st.tmps t).getD (.raw undef)), h0, by omega, ?_, hheap w hr⟩
    unfold actOf
    rw [lenN_eq] at hlen
    rw [mkT_eq _ st.tmps (fun _ => rfl) n 0 (live i0) (by omega) hlive]
    rfl
  · rintro m a w ⟨i, u, hi, hm, rfl, hr⟩
    refine Code.wp_mono ?_ (hround i hi u w hr)
    intro e a' w' hq
    cases e with
    | normal =>
      obtain ⟨i', u', hi', hm', ha, hr'⟩ := hq
      exact ⟨μ i', by omega, i', u', hi', by omega, ha, hr'⟩
    | _ => exact hq

theorem G_back {ι : Type u} {n : Nat} {live : ι → List (Nat × SV)} {hp : ι → List Ent} {φ : ι → Prop} {μ : ι → Nat} {m : Nat} (i : ι) (hi : φ i) (hm : μ i < m) (hlen : lenN st.tmps = n) (hlive : liveOk st.tmps (live i))
    (hheap : ∀ w, Rep W F st.heap w → Rep W F (hp i) w) : G P Q W F (.loop (Back W F n live hp φ μ m) :: k) st := by
  intro w hr
  refine ⟨i, fun t => den ((nth st.tmps t).getD (.raw undef)), hi, hm, ?_, hheap w hr⟩
  unfold actOf
  rw [lenN_eq] at hlen
  rw [mkT_eq _ st.tmps (fun _ => rfl) n 0 (live i) (by omega) hlive]
  rfl

/-- Behind a draw nothing has turned. -/
theorem Rep.drew {h : List Ent} (hr : Rep W F h w) : Rep W F h w.drew := hr.move fun _ hL => hL.drew

end

end Go.Proofs.Ytihajdkipkfiiaa
