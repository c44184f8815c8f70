/- A symbolic executor for the model's code: the symbolic states and what they mean. -/
import Derived.Test.YtihajdkipkfiiaaSlice
import Derived.LoopN
namespace Go.Proofs.Ytihajdkipkfiiaa
open Go Go.RowKit
set_option linter.unusedVariables false
set_option linter.unusedSimpArgs false
set_option linter.unnecessarySimpa false
universe u

/-- Symbolic values. The first number of a pointer, slice or map names an entry of the symbolic heap (a hint for the executor: what the value means doesn't hang on it). -/
inductive SV where
  | int (k : IntKind) (n : Int)
  | bool (b : Bool)
  | str (s : ByteArray)
  | ptr (l b off : Nat)
  | eptr (l b base sz i fo : Nat)
  | vec (l : Nat) (ao : Option Addr) (n cap : Nat)
  | sub (l : Nat) (ao : Option Addr) (cap sz lo hi : Nat)
  | map (l r : Nat)
  | func (f : Fn) (first captured : List SV)
  | iface (t : TypeId) (v : SV)
  | agg (cs : List SV)
  | tuple (cs : List SV)
  | raw (v : Value)

mutual
def den : SV → Value
  | .int k n => .int k n
  | .bool b => .bool b
  | .str s => .string s
  | .ptr _ b off => .pointer (some ⟨b, off, none⟩)
  | .eptr _ b base sz i fo => .pointer (some ⟨b, base + (i * sz + fo), none⟩)
  | .vec _ ao n cap => .slice ao n cap
  | .sub _ ao cap sz lo hi => .slice (if cap = lo then ao else ao.map (·.add (lo * sz))) (hi - lo) (cap - lo)
  | .map _ r => .map (some r)
  | .func f a b => .func f (denL a).toArray (denL b).toArray
  | .iface t v => .iface t (den v)
  | .agg cs => .agg (denL cs).toArray
  | .tuple cs => .tuple (denL cs).toArray
  | .raw v => v
def denL : List SV → List Value
  | [] => []
  | v :: l => den v :: denL l
end

theorem denL_eq (l : List SV) : denL l = l.map den := by
  induction l with
  | nil => rfl
  | cons v l ih => rw [denL, ih]; rfl

theorem length_denL (l : List SV) : (denL l).length = l.length := by rw [denL_eq]; simp

/-- Where an entry lies. -/
inductive Loc where
  | blk (b : Nat)
  | sl (ao : Option Addr) (cap : Nat)

/-- A map's key. -/
inductive Key where
  | i (k : IntKind) (n : Int)
  | s (b : ByteArray)
def Key.sv : Key → SV
  | .i k n => .int k n
  | .s b => .str b
def keyKind : Key → Option IntKind
  | .i k _ => some k
  | .s _ => none

def keyEq : Key → Key → Bool
  | .i _ a, .i _ b => a == b
  | .s a, .s b => a == b
  | _, _ => false
def mget {β : Type} : List (Key × β) → Key → Option β
  | [], _ => none
  | (k', v) :: es, k => match keyEq k k' with
    | true => some v
    | false => mget es k
def mset {β : Type} : List (Key × β) → Key → β → List (Key × β)
  | [], k, v => [(k, v)]
  | (k', v') :: es, k, v => match keyEq k k' with
    | true => (k, v) :: es
    | false => (k', v') :: mset es k v
def mdel {β : Type} : List (Key × β) → Key → List (Key × β)
  | [], _ => []
  | (k', v') :: es, k => match keyEq k k' with
    | true => es
    | false => (k', v') :: mdel es k

/-- The entries of a map bear stamps, no two the same one, all below the clock. -/
def Stamped (ents : List MapEntry) (clock : Nat) : Prop := (ents.map (·.born)).Nodup ∧ ∀ e ∈ ents, e.born < clock

/-- What an entry holds. -/
inductive SObj : Type 1 where
  | mapL {β : Type} (kd : Option IntKind) (enc : β → SV) (es : List (Key × β))
  | mapV (kd : Option IntKind) (es : List (Key × SV))
  | map1 {β : Type} (kd : Option IntKind) (enc : β → SV) (es : List (Key × β)) (k0 : Key) (r0 : Option SV)
  | mapS {β : Type} (kd : Option IntKind) (enc : β → SV) (es : List (Key × (Nat × β))) (clk : Nat)
  | iter (lm m clk : Nat) (seen : List Nat)
  | cells (cs : List SV) (T : TypeId)
  | vecL {α : Type} (T : TypeId) (sz : Nat) (enc : α → List SV) (xs : List α) (d : α)
  | vecV (T : TypeId) (sz n : Nat) (cs : List SV)
  | roL {α : Type} (sz : Nat) (enc : α → List SV) (xs : List α) (d : α)
  | raw (o : Obj)
  | pred (p : World → Ch → Prop)
  | adt {σ : Type} (p : σ → Nat → World → Ch → Prop) (s : σ)
  | gone

structure Ent : Type 1 where
  loc : Loc
  obj : SObj

structure Sy : Type 1 where
  tmps : List SV
  heap : List Ent

def nth {α : Type u} : List α → Nat → Option α
  | [], _ => none
  | x :: _, 0 => some x
  | _ :: l, n + 1 => nth l n
def setN {α : Type u} : List α → Nat → α → List α
  | [], _, _ => []
  | _ :: l, 0, v => v :: l
  | x :: l, n + 1, v => x :: setN l n v
def lenN {α : Type u} : List α → Nat
  | [] => 0
  | _ :: l => lenN l + 1
def snoc {α : Type u} : List α → α → List α
  | [], x => [x]
  | y :: l, x => y :: snoc l x

theorem nth_eq {α : Type u} (l : List α) (n : Nat) : nth l n = l[n]? := by
  induction l generalizing n with
  | nil => simp [nth]
  | cons x l ih => cases n <;> simp [nth, ih]
theorem setN_eq {α : Type u} (l : List α) (n : Nat) (v : α) : setN l n v = l.set n v := by
  induction l generalizing n with
  | nil => simp [setN]
  | cons x l ih => cases n <;> simp [setN, ih]
theorem snoc_eq {α : Type u} (l : List α) (v : α) : snoc l v = l ++ [v] := by
  induction l with
  | nil => rfl
  | cons x l ih => simp [snoc, ih]
theorem lenN_eq {α : Type u} (l : List α) : lenN l = l.length := by
  induction l with
  | nil => rfl
  | cons x l ih => simp [lenN, ih]

/-- The cells of a vector's elements. -/
def flatV {α : Type} (enc : α → List SV) (xs : List α) : List Value := xs.flatMap fun x => denL (enc x)

/-- The chunk c of the heap is the entry's. -/
def has (W : World) : Loc → SObj → Ch → Prop
  | .blk b, .cells cs T, c => c = [(b, .cells (denL cs).toArray T (0, 0))]
  | .sl ao cap, .vecL T sz enc xs _, c => Own T sz ao xs.length cap (flatV enc xs) c ∧ ∀ x, (enc x).length = sz
  | .blk b, .mapV kd es, c => (∀ e ∈ es, keyKind e.1 = kd) ∧ ∃ (ents : List MapEntry) (clock : Nat), c = [(b, .map ents.toArray clock)] ∧ Stamped ents clock ∧ ents.map (fun e => (e.key, e.val)) = es.map fun e => (den e.1.sv, den e.2)
  | .sl ao cap, .vecV T sz n cs, c => Own T sz ao n cap (denL cs) c
  | .sl ao cap, .roL sz enc xs _, c => c = [] ∧ (∀ x, (enc x).length = sz) ∧ xs.length ≤ cap ∧ (xs = [] ∨
      ∃ g off cur T fr, ao = some ⟨g, off, none⟩ ∧ W.heap[g]? = some (.cells cur T fr) ∧ (cur.toList.drop off).take (xs.length * sz) = flatV enc xs)
  | .blk b, .raw o, c => c = [(b, o)]
  | .blk b, .mapL kd enc es, c => (∀ e ∈ es, keyKind e.1 = kd) ∧ ∃ (ents : List MapEntry) (clock : Nat), c = [(b, .map ents.toArray clock)] ∧ Stamped ents clock ∧ ents.map (fun e => (e.key, e.val)) = es.map fun e => (den e.1.sv, den (enc e.2))
  | .blk b, .map1 kd enc es k0 r0, c => (keyKind k0 = kd ∧ (mget es k0).map (fun v => den (enc v)) = r0.map den) ∧ (∀ e ∈ es, keyKind e.1 = kd) ∧ ∃ (ents : List MapEntry) (clock : Nat), c = [(b, .map ents.toArray clock)] ∧ Stamped ents clock ∧ ents.map (fun e => (e.key, e.val)) = es.map fun e => (den e.1.sv, den (enc e.2))
  | .blk b, .mapS kd enc es clk, c => (∀ e ∈ es, keyKind e.1 = kd) ∧ ∃ (ents : List MapEntry), c = [(b, .map ents.toArray clk)] ∧ Stamped ents clk ∧ ents.map (fun e => (e.key, e.born, e.val)) = es.map fun e => (den e.1.sv, e.2.1, den (enc e.2.2))
  | .blk b, .iter _ m clk seen, c => c = [(b, .mapIter (some m) clk seen.toArray clk)]
  | _, .pred p, c => p W c
  | .blk b, .adt p s, c => p s b W c
  | _, .gone, c => c = []
  | _, _, _ => False

def HasAll (W : World) : List Ent → List Ch → Prop
  | [], cs => cs = []
  | e :: es, cs => ∃ c cs', cs = c :: cs' ∧ has W e.loc e.obj c ∧ HasAll W es cs'

/-- The world's heap is the symbolic one, beside the frame F. -/
def Rep (W : World) (F : List Ch) (h : List Ent) (w : World) : Prop := ∃ cs, HasAll W h cs ∧ H W w (cs ++ F)

section
variable {W : World} {F : List Ch}

theorem HasAll.get : ∀ {h : List Ent} {cs : List Ch} {l : Nat} {e : Ent}, HasAll W h cs → h[l]? = some e →
    ∃ c x y, cs = x ++ c :: y ∧ has W e.loc e.obj c ∧ ∀ (e' : Ent) (c' : Ch), has W e'.loc e'.obj c' → HasAll W (h.set l e') (x ++ c' :: y)
  | [], _, _, _, _, hl => by simp at hl
  | e0 :: h, cs, 0, e, ha, hl => by
    obtain ⟨c, cs', rfl, hc, ha⟩ := ha
    simp only [List.getElem?_cons_zero, Option.some.injEq] at hl
    subst hl
    exact ⟨c, [], cs', rfl, hc, fun e' c' h' => ⟨c', cs', rfl, h', ha⟩⟩
  | e0 :: h, cs, l + 1, e, ha, hl => by
    obtain ⟨c0, cs', rfl, hc0, ha⟩ := ha
    simp only [List.getElem?_cons_succ] at hl
    obtain ⟨c, x, y, rfl, hc, hs⟩ := HasAll.get ha hl
    exact ⟨c, c0 :: x, y, rfl, hc, fun e' c' h' => ⟨c0, _, rfl, hc0, hs e' c' h'⟩⟩

theorem HasAll.snoc : ∀ {h : List Ent} {cs : List Ch} {e : Ent} {c : Ch}, HasAll W h cs → has W e.loc e.obj c → HasAll W (h ++ [e]) (cs ++ [c])
  | [], cs, e, c, ha, hc => by
    have : cs = [] := ha
    subst this
    exact ⟨c, [], rfl, hc, rfl⟩
  | e0 :: h, _, e, c, ha, hc => by
    obtain ⟨c0, cs', rfl, hc0, ha⟩ := ha
    exact ⟨c0, cs' ++ [c], rfl, hc0, HasAll.snoc ha hc⟩

theorem H.mid {W w : World} {x y : List Ch} {c : Ch} (h : H W w (x ++ c :: y)) : H W w (c :: (x ++ y)) := by
  refine h.perm ?_
  simp only [List.flatten_append, List.flatten_cons]
  rw [← List.append_assoc, ← List.append_assoc]
  exact List.Perm.append_right _ List.perm_append_comm

theorem H.unmid {W w : World} {x y : List Ch} {c : Ch} (h : H W w (c :: (x ++ y))) : H W w (x ++ c :: y) := by
  refine h.perm ?_
  simp only [List.flatten_append, List.flatten_cons]
  rw [← List.append_assoc, ← List.append_assoc]
  exact List.Perm.append_right _ List.perm_append_comm

/-- An entry's chunk, and how it is changed. -/
theorem Rep.get {h : List Ent} {w : World} {l : Nat} {e : Ent} (hr : Rep W F h w) (hl : nth h l = some e) :
    ∃ c L, has W e.loc e.obj c ∧ H W w (c :: L) ∧ ∀ (e' : Ent) (c' : Ch) (w' : World), has W e'.loc e'.obj c' → H W w' (c' :: L) → Rep W F (setN h l e') w' := by
  rw [nth_eq] at hl
  obtain ⟨cs, ha, hH⟩ := hr
  obtain ⟨c, x, y, rfl, hc, hs⟩ := ha.get hl
  simp only [List.append_assoc, List.cons_append] at hH
  refine ⟨c, x ++ (y ++ F), hc, hH.mid, fun e' c' w' h' hw' => ?_⟩
  refine ⟨x ++ c' :: y, by rw [setN_eq]; exact hs e' c' h', ?_⟩
  simp only [List.append_assoc, List.cons_append]
  exact hw'.unmid

/-- A new entry. -/
theorem Rep.new {h : List Ent} {w w' : World} {e : Ent} {c : Ch} (hr : Rep W F h w) (hc : has W e.loc e.obj c) (hw : ∀ L, H W w L → H W w' (c :: L)) : Rep W F (snoc h e) w' := by
  obtain ⟨cs, ha, hH⟩ := hr
  rw [snoc_eq]
  refine ⟨cs ++ [c], ha.snoc hc, ?_⟩
  simp only [List.append_assoc, List.cons_append, List.nil_append]
  exact (hw _ hH).unmid

theorem Rep.move {h : List Ent} {w w' : World} (hr : Rep W F h w) (hw : ∀ L, H W w L → H W w' L) : Rep W F h w' := by
  obtain ⟨cs, ha, hH⟩ := hr
  exact ⟨cs, ha, hw _ hH⟩
end

/-! ### The code that is left -/

inductive Frm where
  | code (c : Code)
  | ops (ops : Array Oper) (l : List Oper)
  | blk (id : Nat)
  | loop (J : Act → World → Prop)
  | un (c : Code) (n : Nat)

def post (P : Program) (Q : Exit → Act → World → Prop) : List Frm → Exit → Act → World → Prop
  | [] => Q
  | .code c :: k => Exit.then (c.wp P (post P Q k)) (post P Q k)
  | .ops ops l :: k => Exit.then (wpList P ops (post P Q k) l) (post P Q k)
  | .blk id :: k => Exit.inBlock id (post P Q k)
  | .loop J :: k => Exit.then J (post P Q k)
  | .un c n :: k => Exit.then (Code.rounds P c (post P Q k) n) (post P Q k)

/-- The rest of the code, from the begin of the first piece. -/
def swp (P : Program) (Q : Exit → Act → World → Prop) : List Frm → Act → World → Prop
  | [] => Q .normal
  | .code c :: k => c.wp P (post P Q k)
  | .ops ops l :: k => wpList P ops (post P Q k) l
  | .blk _ :: k => post P Q k .normal
  | .loop J :: _ => J
  | .un c n :: k => Code.rounds P c (post P Q k) n

theorem swp_normal {P : Program} {Q : Exit → Act → World → Prop} : ∀ (k : List Frm) (a : Act) (w : World), swp P Q k a w → post P Q k .normal a w
  | [], _, _, h => h
  | .code _ :: _, _, _, h => h
  | .ops .. :: _, _, _, h => h
  | .blk _ :: k, _, _, h => by show Exit.inBlock _ _ _ _ _; exact h
  | .loop _ :: _, _, _, h => h
  | .un _ _ :: _, _, _, h => h

def actOf (st : Sy) : Act := ⟨(denL st.tmps).toArray, []⟩

/-- From each world that is as the symbolic state says the code that is left comes to what Q says. -/
def G (P : Program) (Q : Exit → Act → World → Prop) (W : World) (F : List Ch) (k : List Frm) (st : Sy) : Prop :=
  ∀ w, Rep W F st.heap w → swp P Q k (actOf st) w

/-- The function's end. -/
def Fin (Q : Exit → Act → World → Prop) (W : World) (F : List Ch) (st : Sy) : Prop :=
  ∀ w, Rep W F st.heap w → Q .ret (actOf st) w

def Sy.put (st : Sy) : Option Tmp → SV → Sy
  | some d, v => { st with tmps := setN st.tmps d v }
  | none, _ => st

theorem actOf_put (st : Sy) (d : Option Tmp) (v : SV) : actOf (st.put d v) = (actOf st).put d (den v) := by
  cases d with
  | none => rfl
  | some d => simp [Sy.put, actOf, Act.put, denL_eq, setN_eq, List.map_set]

theorem heap_put (st : Sy) (d : Option Tmp) (v : SV) : (st.put d v).heap = st.heap := by cases d <;> rfl

def ofValue : Value → SV
  | .int k n => .int k n
  | .bool b => .bool b
  | .string s => .str s
  | v => .raw v

theorem den_ofValue (v : Value) : den (ofValue v) = v := by cases v <;> rfl

def Sy.eval (st : Sy) : Operand → SV
  | .tmp t => (nth st.tmps t).getD (.raw undef)
  | .const v => ofValue v
  | .global g => .raw (.pointer (some ⟨g, 0, none⟩))
  | .func f => .func (.func f) [] []

theorem den_eval (st : Sy) (x : Operand) : den (st.eval x) = (actOf st).eval x := by
  cases x with
  | tmp t =>
    simp only [Sy.eval, actOf, Act.eval, nth_eq, denL_eq, Array.getD_eq_getD_getElem?, List.getElem?_toArray, List.getElem?_map]
    cases st.tmps[t]? <;> simp [den]
  | const v => exact den_ofValue v
  | global g => rfl
  | func f => simp [Sy.eval, Act.eval, den, denL]

end Go.Proofs.Ytihajdkipkfiiaa
