/- The symbolic executor: the run. -/
import Derived.Test.YtihajdkipkfiiaaEngE
namespace Go.Proofs.Ytihajdkipkfiiaa
open Go Go.RowKit
set_option linter.unusedVariables false
set_option linter.unusedSimpArgs false
set_option linter.unnecessarySimpa false
universe u
set_option linter.unusedVariables false

def popTo (id : Nat) : List Frm → Option (List Frm)
  | .blk i :: k => if i = id then some k else popTo id k
  | _ :: k => popTo id k
  | [] => none

/-- Is it one of them? -/
def memN (n : Nat) : List Nat → Bool
  | [] => false
  | m :: l => match Nat.beq m n with
    | true => true
    | false => memN n l

/-- The first region of a code. -/
def firstReg : Code → Nat
  | .region i _ _ => i
  | .seq a _ => firstReg a
  | .cond _ a _ => firstReg a
  | .block _ c => firstReg c
  | .loop c => firstReg c
  | _ => 0

/-- ss: the regions ahead of which the run stops; 100000 and more: the loops (by their first regions) that are taken round by round. -/
def run (P : Program) (Cs : Tbl) (kc : Bool) (ss : List Nat) (K : List Frm → Sy → Prop) (R : Sy → Prop) : Nat → List Frm → Sy → Prop
  | 0, k, st => K k st
  | _ + 1, [], st => R st
  | n + 1, .code c :: k, st => match c with
    | .skip => run P Cs kc ss K R n k st
    | .label _ => run P Cs kc ss K R n k st
    | .seq a b => run P Cs kc ss K R n (.code a :: .code b :: k) st
    | .cond (.tmp t) a b => match nth st.tmps t with
      | some (.bool b') => match b' with
        | true => run P Cs kc ss K R n (.code a :: k) { st with tmps := setN st.tmps t (.bool true) }
        | false => run P Cs kc ss K R n (.code b :: k) { st with tmps := setN st.tmps t (.bool false) }
      | _ => K (.code (.cond (.tmp t) a b) :: k) st
    | .block id c => run P Cs kc ss K R n (.code c :: .blk id :: k) st
    | .exit id => match popTo id k with
      | some k' => run P Cs kc ss K R n k' st
      | none => K (.code (.exit id) :: k) st
    | .ret => R st
    | .region id ops dr => match memN id ss with
      | true => K (.code (.region id ops dr) :: k) st
      | false => match dr with
        | false => run P Cs kc ss K R n (.ops ops ops.toList :: k) st
        | true => match Region.noSelect ops with
          | true => xdraw P Cs ops kc st.heap (fun st' => run P Cs kc ss K R n k st') (K (.code (.region id ops true) :: k) st) ops.size (Array.replicate ops.size false) true st
          | false => K (.code (.region id ops true) :: k) st
    | .cond x a b => K (.code (.cond x a b) :: k) st
    | .loop c => match memN (Nat.add 100000 (firstReg c)) ss with
      | true => run P Cs kc ss K R n (.un c 50 :: k) st
      | false => K (.code (.loop c) :: k) st
    | c => K (.code c :: k) st
  | n + 1, .blk _ :: k, st => run P Cs kc ss K R n k st
  | n + 1, .ops ops l :: k, st => match l with
    | [] => run P Cs kc ss K R n k st
    | o :: l => xguard P Cs ops st o (fun st' => run P Cs kc ss K R n (.ops ops l :: k) st') (K (.ops ops (o :: l) :: k) st)
  | _ + 1, .loop J :: k, st => K (.loop J :: k) st
  | n + 1, .un c m :: k, st => match m with
    | 0 => K (.un c 0 :: k) st
    | m + 1 => run P Cs kc ss K R n (.code c :: .un c m :: k) st

theorem post_exit {P : Program} {Q : Exit → Act → World → Prop} (id : Nat) (a : Act) (w : World) : ∀ (k k' : List Frm), popTo id k = some k' → post P Q k' .normal a w → post P Q k (.exit id) a w
  | [], k', h, _ => by simp [popTo] at h
  | .blk i :: k, k', h, hp => by
    simp only [popTo] at h
    show Exit.inBlock i (post P Q k) (.exit id) a w
    split at h
    · rename_i hi; subst hi; cases h; simp [Exit.inBlock, hp]
    · rename_i hi
      simp only [Exit.inBlock]
      rw [if_neg (fun e => hi e.symm)]
      exact post_exit id a w k k' h hp
  | .code c :: k, k', h, hp => post_exit id a w k k' h hp
  | .ops o l :: k, k', h, hp => post_exit id a w k k' h hp
  | .loop J :: k, k', h, hp => post_exit id a w k k' h hp
  | .un _ _ :: k, k', h, hp => post_exit id a w k k' h hp

theorem post_ret {P : Program} {Q : Exit → Act → World → Prop} (a : Act) (w : World) : ∀ (k : List Frm), Q .ret a w → post P Q k .ret a w
  | [], h => h
  | .blk i :: k, h => post_ret a w k h
  | .code c :: k, h => post_ret a w k h
  | .ops o l :: k, h => post_ret a w k h
  | .loop J :: k, h => post_ret a w k h
  | .un _ _ :: k, h => post_ret a w k h

theorem post_panic {P : Program} {Q : Exit → Act → World → Prop} (hQ : ∀ c d v a w, Q (.panic c) (Act.put a d v) w → Q (.panic c) a w) : ∀ (k : List Frm) c d v a w, post P Q k (.panic c) (Act.put a d v) w → post P Q k (.panic c) a w
  | [] => hQ
  | .blk i :: k => fun c d v a w h => post_panic hQ k c d v a w h
  | .code _ :: k => fun c d v a w h => post_panic hQ k c d v a w h
  | .ops _ _ :: k => fun c d v a w h => post_panic hQ k c d v a w h
  | .loop _ :: k => fun c d v a w h => post_panic hQ k c d v a w h
  | .un _ _ :: k => fun c d v a w h => post_panic hQ k c d v a w h

theorem run_sound {P : Program} {Cs : Tbl} {kc : Bool} {ss : List Nat} {W : World} {F : List Ch} {Q : Exit → Act → World → Prop} {R : Sy → Prop} {K : List Frm → Sy → Prop} (hK : ∀ k st, K k st → G P Q W F k st) (hC : AllOk P Cs) (hm : P.follows .mixedOrders = true) (hQ : ∀ c d v a w, Q (.panic c) (Act.put a d v) w → Q (.panic c) a w)
    (hR : ∀ st, R st → Fin Q W F st) (hE : ∀ a w, Q .ret a w → Q .normal a w) : ∀ (n : Nat) (k : List Frm) (st : Sy), run P Cs kc ss K R n k st → G P Q W F k st
  | 0, k, st, h => hK _ _ h
  | n + 1, [], st, h => fun w hr => hE _ _ (hR st h w hr)
  | n + 1, .code c :: k, st, h => by
    cases c with
    | skip => exact fun w hr => wp_skip (swp_normal _ _ _ (run_sound hK hC hm hQ hR hE n k st h w hr))
    | label l => exact fun w hr => wp_label (swp_normal _ _ _ (run_sound hK hC hm hQ hR hE n k st h w hr))
    | seq a b => exact fun w hr => wp_seq (run_sound hK hC hm hQ hR hE n _ st h w hr)
    | cond x a b =>
      cases x with
      | tmp t =>
        simp only [run] at h
        split at h
        · rename_i b' hb
          intro w hr
          have hc : (actOf st).eval (.tmp t) = .bool b' := by
            rw [← den_eval]; simp [Sy.eval, hb, den]
          cases b' with
          | true =>
            have h1 := run_sound hK hC hm hQ hR hE n _ _ h w hr
            rw [actOf_same t true hb] at h1
            exact wp_cond hc h1
          | false =>
            have h1 := run_sound hK hC hm hQ hR hE n _ _ h w hr
            rw [actOf_same t false hb] at h1
            exact wp_cond hc h1
        · exact hK _ _ h
      | _ => exact hK _ _ h
    | block id c => exact fun w hr => wp_block (run_sound hK hC hm hQ hR hE n _ st h w hr)
    | exit id =>
      simp only [run] at h
      split at h
      · rename_i k' hk
        exact fun w hr => wp_exit (post_exit id _ _ k k' hk (swp_normal _ _ _ (run_sound hK hC hm hQ hR hE n k' st h w hr)))
      · exact hK _ _ h
    | ret => exact fun w hr => wp_ret (post_ret _ _ k (hR _ h w hr))
    | region id ops dr =>
      simp only [run] at h
      split at h
      · exact hK _ _ h
      · cases dr with
        | false => exact fun w hr => wp_region_list (run_sound hK hC hm hQ hR hE n (.ops ops ops.toList :: k) st h w hr)
        | true =>
          simp only at h
          split at h
          · rename_i hs
            by_cases hS : K (.code (.region id ops true) :: k) st
            · exact hK _ _ hS
            · intro w hr
              have hd : Rep W F st.heap w.drew := hr.drew
              refine wp_region_any hm (wpAnyT.any _ _ _ _ (sound_xdraw (W := W) (F := F) (Q := post P Q k) hC hs (post_panic hQ k) hS (fun st' h1 w' h2 => swp_normal _ _ _ (run_sound hK hC hm hQ hR hE n k st' h1 w' h2)) _ _ true st w.drew hd (fun _ => hd) h))
          · exact hK _ _ h
    | loop c =>
      simp only [run] at h
      split at h
      · exact fun w hr => wp_loop_rounds 50 (run_sound hK hC hm hQ hR hE n (.un c 50 :: k) st h w hr)
      · exact hK _ _ h
    | _ => exact hK _ _ h
  | n + 1, .blk _ :: k, st, h => fun w hr => swp_normal _ _ _ (run_sound hK hC hm hQ hR hE n k st h w hr)
  | n + 1, .ops ops [] :: k, st, h => fun w hr => wpList_nil (P := P) (ops := ops) (swp_normal _ _ _ (run_sound hK hC hm hQ hR hE n k st h w hr))
  | n + 1, .ops ops (o :: l) :: k, st, h => fun w hr =>
    sound_xguard hC (Q := post P Q k) (N := fun st' => run P Cs kc ss K R n (.ops ops l :: k) st') (K (.ops ops (o :: l) :: k) st) (fun st' h1 w' h2 => run_sound hK hC hm hQ hR hE n (.ops ops l :: k) st' h1 w' h2) hr h (fun hg => hK _ _ hg) (fun _ _ _ hg => hK _ _ hg w hr)
  | n + 1, .loop J :: k, st, h => hK _ _ h
  | n + 1, .un c 0 :: k, st, h => hK _ _ h
  | n + 1, .un c (m + 1) :: k, st, h => fun w hr => run_sound hK hC hm hQ hR hE n (.code c :: .un c m :: k) st h w hr

theorem endQ_panic {P : Program} {fn : Func} {W : World} {F : List Ch} {Post : List Ent → SV → Prop} : ∀ c d v a w, endQ P fn W F Post (.panic c) (Act.put a d v) w → endQ P fn W F Post (.panic c) a w := by
  intro c d v a w h
  exact ⟨by have := h.1; cases d <;> exact this, h.2⟩

/-- A function's end: its results and the entries meet the post. -/
def retP (P : Program) (rs : List ResultVar) (Post : List Ent → SV → Prop) (st : Sy) : Prop := resK P st rs fun vs => Post st.heap (resTuple vs)

theorem Fin_retP {P : Program} {fn : Func} {W : World} {F : List Ch} {Post : List Ent → SV → Prop} (st : Sy) (h : retP P fn.results.toList Post st) : Fin (endQ P fn W F Post) W F st := Fin_intro h

/-- From the run to the code that is left. -/
theorem G_run {P : Program} {Cs : Tbl} {kc : Bool} {ss : List Nat} {fn : Func} {W : World} {F : List Ch} {Post : List Ent → SV → Prop} (hC : AllOk P Cs) (hm : P.follows .mixedOrders = true) (n : Nat) {k : List Frm} {st : Sy}
    (h : run P Cs kc ss (G P (endQ P fn W F Post) W F) (retP P fn.results.toList Post) n k st) : G P (endQ P fn W F Post) W F k st :=
  run_sound (fun _ _ h => h) hC hm endQ_panic Fin_retP (fun _ _ h => h) n k st h

/-- A function's contract, by the run. -/
theorem Spec.of_run {P : Program} {Cs : Tbl} {kc : Bool} {ss : List Nat} {f : FuncId} {hs : List Ent} {args : List SV} {Post : List Ent → SV → Prop} {fn : Func} {c : Code} (n m : Nat) (hC : AllOk P Cs) (hm : P.follows .mixedOrders = true) (hf : P.funcs[f]? = some fn) (hb : fn.body = some c) (hn : fn.ntmps = n) (hl : Nat.ble (lenN args) n = true)
    (hg : ∀ W F, run P Cs kc ss (G P (endQ P fn W F Post) W F) (retP P fn.results.toList Post) m [.code c] ⟨padTo n args, hs⟩) : Spec P f hs args Post :=
  Spec.of_G n hf hb hn (Nat.le_of_ble_eq_true hl) fun W F => G_run hC hm m (hg W F)

/-- A contract over some entries alone. -/
theorem Spec.at {P : Program} {f : FuncId} {hs hp : List Ent} {args args' : List SV} {Post Post' : List Ent → SV → Prop} (π : List Nat) (hnd : distinct π = true) (hpk : pickE hs π = some hp) (hsp : Spec P f hp args' Post') (ha : denL args = denL args')
    (hpost : ∀ h' r, Post' h' r → lenN hp ≤ lenN h' ∧ ∃ r', den r = den r' ∧ Post (putBack π hs h') r') : Spec P f hs args Post := by
  intro W F w hr
  obtain ⟨F', hr', hback⟩ := hr.frame (distinct_nodup π hnd) hpk
  rw [ha]
  refine Calls.mono (hsp W F' w hr') ?_
  rintro e w' ⟨h', r, hp', rfl, hr2⟩
  obtain ⟨hlen, r', hd, hq⟩ := hpost h' r hp'
  rw [lenN_eq, lenN_eq] at hlen
  exact ⟨_, r', hq, by rw [hd], hback h' w' hlen hr2⟩

/-- A place in a code. -/
def codeAt : Code → List Nat → Code
  | .seq a _, 0 :: l => codeAt a l
  | .seq _ b, _ :: l => codeAt b l
  | .cond _ a _, 0 :: l => codeAt a l
  | .cond _ _ b, _ :: l => codeAt b l
  | .block _ c, _ :: l => codeAt c l
  | .loop c, _ :: l => codeAt c l
  | c, _ => c
def opsAt (c : Code) (l : List Nat) : Array Oper :=
  match codeAt c l with
  | .region _ ops _ => ops
  | _ => #[]
def bodyOf (fn : Func) : Code := fn.body.getD .skip

/-- Where a region lies in a code. -/
def pathOf : Code → Nat → Option (List Nat)
  | .region i _ _, r => match Nat.beq i r with
    | true => some []
    | false => none
  | .seq a b, r => match pathOf a r with
    | some l => some (0 :: l)
    | none => match pathOf b r with
      | some l => some (1 :: l)
      | none => none
  | .cond _ a b, r => match pathOf a r with
    | some l => some (0 :: l)
    | none => match pathOf b r with
      | some l => some (1 :: l)
      | none => none
  | .block _ c, r => match pathOf c r with
    | some l => some (0 :: l)
    | none => none
  | .loop c, r => match pathOf c r with
    | some l => some (0 :: l)
    | none => none
  | _, _ => none

/-- What is left at a place of a code; Js: what its loops hand on, the outermost one first. -/
def frm : List (Act → World → Prop) → Code → List Nat → List Frm → List Frm
  | _, c, [], k => .code c :: k
  | Js, .seq a b, 0 :: l, k => frm Js a l (.code b :: k)
  | Js, .seq _ b, _ :: l, k => frm Js b l k
  | Js, .cond _ a _, 0 :: l, k => frm Js a l k
  | Js, .cond _ _ b, _ :: l, k => frm Js b l k
  | Js, .block id c, _ :: l, k => frm Js c l (.blk id :: k)
  | J :: Js, .loop c, _ :: l, k => frm Js c l (.loop J :: k)
  | _, c, _, k => .code c :: k

/-- What is left ahead of a region. -/
def frmR (Js : List (Act → World → Prop)) (c : Code) (r : Nat) : List Frm :=
  match pathOf c r with
  | some l => frm Js c l []
  | none => []

/-- A loop at a place of a code. -/
theorem G_loopAt {P : Program} {Q : Exit → Act → World → Prop} {W : World} {F : List Ch} {st : Sy} {ι : Type u} (Js : List (Act → World → Prop)) (c : Code) (l : List Nat) (n : Nat) (live : ι → List (Nat × SV)) (hp : ι → List Ent) (φ : ι → Prop) (μ : ι → Nat) (i0 : ι)
    (e1 : frm Js c l [] = .code (.loop (codeAt c (l ++ [0]))) :: (frm Js c l []).tail) (e2 : ∀ J, frm (Js ++ [J]) c (l ++ [0]) [] = .code (codeAt c (l ++ [0])) :: .loop J :: (frm Js c l []).tail)
    (h0 : φ i0) (hlen : lenN st.tmps = n) (hlive : liveOk st.tmps (live i0)) (hheap : ∀ w, Rep W F st.heap w → Rep W F (hp i0) w)
    (hround : ∀ i, φ i → ∀ u, G P Q W F (frm (Js ++ [Back W F n live hp φ μ (μ i)]) c (l ++ [0]) []) ⟨mkT u n 0 (live i), hp i⟩) : G P Q W F (frm Js c l []) st := by
  rw [e1]
  refine G_loop n live hp φ μ i0 h0 hlen hlive hheap fun i hi u => ?_
  have := hround i hi u
  rw [e2] at this
  exact this

/-- A contract of a function that needs nothing of the heap and leaves nothing there that matters. -/
theorem Spec.lift {P : Program} {f : FuncId} {args : List SV} {Φ : SV → Prop} {hs : List Ent} {N : List Ent → SV → Prop} (h : Spec P f [] args fun _ r => Φ r) (hN : ∀ r, Φ r → N hs r) : Spec P f hs args N := by
  rintro W F w ⟨cs, ha, hH⟩
  refine Calls.mono (h W (cs ++ F) w ⟨[], rfl, hH⟩) ?_
  rintro e w' ⟨h', r, hp, rfl, cs', ha', hH'⟩
  exact ⟨hs, r, hN r hp, rfl, cs, ha, hH'.dropL⟩

theorem Spec.pureG {P : Program} {f : FuncId} {args : List SV} {fn : Func} {v : SV} {hs : List Ent} {N : List Ent → SV → Prop} (n : Nat) (hf : P.funcs[f]? = some fn) (hb : fn.body = some (bodyOf fn)) (hn : fn.ntmps = n) (hl : Nat.ble (lenN args) n = true)
    (h : N hs v) (hg : ∀ W F, G P (endQ P fn W F fun _ r => r = v) W F [.code (bodyOf fn)] ⟨padTo n args, []⟩) : Spec P f hs args N :=
  Spec.lift (Spec.of_G n hf hb hn (Nat.le_of_ble_eq_true hl) hg) (by rintro _ rfl; exact h)

theorem Spec.pure {P : Program} {Cs : Tbl} {kc : Bool} {ss : List Nat} {f : FuncId} {args : List SV} {fn : Func} {v : SV} {hs : List Ent} {N : List Ent → SV → Prop} (m n : Nat) (hC : AllOk P Cs) (hm : P.follows .mixedOrders = true) (hf : P.funcs[f]? = some fn) (hb : fn.body = some (bodyOf fn)) (hn : fn.ntmps = n) (hl : Nat.ble (lenN args) n = true)
    (h : N hs v) (hg : ∀ K, run P Cs kc ss K (retP P fn.results.toList fun _ r => r = v) m [.code (bodyOf fn)] ⟨padTo n args, []⟩) : Spec P f hs args N :=
  Spec.pureG n hf hb hn hl h fun W F => G_run hC hm m (hg _)

/-- A callee's own run in the place of a contract. -/
def inl (P : Program) (Cs : Tbl) (kc : Bool) (fn : Func) (fuel : Nat) : Ctr := fun args hs N =>
  match Nat.ble (lenN args) fn.ntmps with
  | true => run P Cs kc [] (fun _ _ => False) (retP P fn.results.toList N) fuel [.code (bodyOf fn)] ⟨padTo fn.ntmps args, hs⟩
  | false => False

/-- A callee's own run, loops and all (ss). -/
def inlS (P : Program) (Cs : Tbl) (kc : Bool) (ss : List Nat) (fn : Func) (fuel : Nat) : Ctr := fun args hs N =>
  match Nat.ble (lenN args) fn.ntmps with
  | true => run P Cs kc ss (fun _ _ => False) (retP P fn.results.toList N) fuel [.code (bodyOf fn)] ⟨padTo fn.ntmps args, hs⟩
  | false => False

theorem inlS_ok {P : Program} {Cs : Tbl} {kc : Bool} {ss : List Nat} {f : FuncId} {fn : Func} {fuel : Nat} (hC : AllOk P Cs) (hm : P.follows .mixedOrders = true) (hf : P.funcs[f]? = some fn) (hb : fn.body = some (bodyOf fn)) : CtrOk P f (inlS P Cs kc ss fn fuel) := by
  intro args hs N h
  unfold inlS at h
  split at h
  · rename_i hl
    exact Spec.of_G fn.ntmps hf hb rfl (Nat.le_of_ble_eq_true hl) fun W F => run_sound (fun _ _ h => h.elim) hC hm endQ_panic Fin_retP (fun _ _ h => h) fuel _ _ h
  · exact h.elim

theorem inl_ok {P : Program} {Cs : Tbl} {kc : Bool} {f : FuncId} {fn : Func} {fuel : Nat} (hC : AllOk P Cs) (hm : P.follows .mixedOrders = true) (hf : P.funcs[f]? = some fn) (hb : fn.body = some (bodyOf fn)) : CtrOk P f (inl P Cs kc fn fuel) := by
  intro args hs N h
  unfold inl at h
  split at h
  · rename_i hl
    exact Spec.of_G fn.ntmps hf hb rfl (Nat.le_of_ble_eq_true hl) fun W F => run_sound (fun _ _ h => h.elim) hC hm endQ_panic Fin_retP (fun _ _ h => h) fuel _ _ h
  · exact h.elim
end Go.Proofs.Ytihajdkipkfiiaa
