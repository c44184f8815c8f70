/- The symbolic executor: one operation. -/
import Derived.Test.YtihajdkipkfiiaaEngA
import Derived.Laws.StructEq
namespace Go.Proofs.Ytihajdkipkfiiaa
open Go Go.RowKit
set_option linter.unusedVariables false
set_option linter.unusedSimpArgs false
set_option linter.unnecessarySimpa false
universe u
set_option linter.unusedVariables false

/-! ### What is asked of types: closed facts -/

/-- Is a variable of the type more than one cell's value (a struct, an array)? And how many cells has it? -/
def tlay (P : Program) (t : TypeId) : Option (Bool × Nat) :=
  match P.underlying t, P.info? t with
  | some (.struct _), some i => some (true, i.size)
  | some (.array _ _), some i => some (true, i.size)
  | some _, some i => some (false, i.size)
  | _, _ => none
/-- The zero value's cells. -/
def tzero (P : Program) (t : TypeId) : Option (List SV) := ((P.info? t).bind (·.zero)).map fun z => z.cells.toList.map ofValue
/-- A field's place, where it has cells. -/
def tfield (P : Program) (s f : Nat) : Option Nat :=
  match P.underlying s with
  | some (.struct fs) => (fs[f]?).bind fun fd => match P.info? fd.type with
    | some i => if i.size = 0 then none else some fd.offset
    | none => none
  | _ => none
/-- A field's place and kind. -/
def tfieldV (P : Program) (s f : Nat) : Option (Nat × Bool × Nat) :=
  match P.underlying s with
  | some (.struct fs) => (fs[f]?).bind fun fd => (tlay P fd.type).map fun x => (fd.offset, x.1, x.2)
  | _ => none
/-- A slice's element and its size. -/
def tslice (P : Program) (t : TypeId) : Option (TypeId × Nat) :=
  match P.underlying t with
  | some (.slice e) => (P.info? e).map fun i => (e, i.size)
  | _ => none

theorem tlay_agg {P : Program} {t : TypeId} {k : Nat} (h : tlay P t = some (true, k)) (w : World) : (isAgg t).run P w = .ok true w ∧ (sizeOf t).run P w = .ok k w := by
  unfold tlay at h
  split at h <;> simp_all [isAgg, sizeOf, typeInfo, underlying]
theorem tlay_one {P : Program} {t : TypeId} {k : Nat} (h : tlay P t = some (false, k)) (w : World) : (isAgg t).run P w = .ok false w ∧ (sizeOf t).run P w = .ok k w := by
  unfold tlay at h
  split at h <;> simp_all [isAgg, sizeOf, typeInfo, underlying]
  all_goals (split <;> simp_all)
theorem tlay_size {P : Program} {t : TypeId} {b : Bool} {k : Nat} (h : tlay P t = some (b, k)) (w : World) : (sizeOf t).run P w = .ok k w := by
  cases b
  · exact (tlay_one h w).2
  · exact (tlay_agg h w).2

section
variable {P : Program} {W w : World} {F : List Ch} {st : Sy} {o : Oper} {Q : Exit → Act → World → Prop} {K : Act → World → Prop} {N : Sy → Prop}

/-- An operation that comes to a value and changes nothing. -/
theorem sound_pure (hN : ∀ st', N st' → ∀ w', Rep W F st'.heap w' → K (actOf st') w') (hr : Rep W F st.heap w) (v : SV)
    (hrun : (execOp (actOf st).eval o).run P w = .ok (.value (den v)) w) (hn : N (st.put o.dst v)) : o.wp P (actOf st) w K Q := by
  unfold Oper.wp
  rw [hrun]
  show K ((actOf st).put o.dst (den v)) w
  rw [← actOf_put]
  exact hN _ hn w (by rw [heap_put]; exact hr)
end

/-- The value of an operation that looks at its operands alone; beside it what must hold. -/
def binI (op : BinOp) (k : IntKind) (a b : Int) : Option SV :=
  match op with
  | .add => some (.int k (k.wrap (a + b)))
  | .sub => some (.int k (k.wrap (a - b)))
  | .mul => some (.int k (k.wrap (a * b)))
  | .eql => some (.bool (a == b))
  | .neq => some (.bool (a != b))
  | .lss => some (.bool (decide (a < b)))
  | .leq => some (.bool (decide (a ≤ b)))
  | .gtr => some (.bool (decide (a > b)))
  | .geq => some (.bool (decide (a ≥ b)))
  | _ => none

/-- '/' and '%' by a number that isn't 0. -/
def divI (op : BinOp) (k : IntKind) (a b : Int) : Option SV :=
  match op with
  | .quo => some (.int k (k.wrap (a.tdiv b)))
  | .rem => some (.int k (a.tmod b))
  | _ => none

/-- The greater one, the less one. -/
def mxI (a b : Int) : Int := if b > a then b else a
def mnI (a b : Int) : Int := if b < a then b else a
/-- Shifts. -/
def shI (op : BinOp) (k : IntKind) (a b : Int) : Option SV :=
  match op with
  | .shl => some (.int k (k.wrap (a * 2 ^ (min b.toNat k.bits))))
  | .shr => some (.int k (a.fdiv (2 ^ (min b.toNat k.bits))))
  | _ => none

def sEq (a b : ByteArray) : Bool := a.toList == b.toList
def sLt (a b : ByteArray) : Bool := Op.bytesLess a.toList b.toList
def binS (op : BinOp) (a b : ByteArray) : Option SV :=
  match op with
  | .eql => some (.bool (sEq a b))
  | .neq => some (.bool (!sEq a b))
  | .lss => some (.bool (sLt a b))
  | .leq => some (.bool (sLt a b || sEq a b))
  | .gtr => some (.bool (!(sLt a b || sEq a b)))
  | .geq => some (.bool (!sLt a b))
  | _ => none

def takeN {α : Type u} : List α → Nat → List α
  | _, 0 => []
  | [], _ + 1 => []
  | x :: l, n + 1 => x :: takeN l n
def dropN {α : Type u} : List α → Nat → List α
  | l, 0 => l
  | [], _ + 1 => []
  | _ :: l, n + 1 => dropN l n
theorem takeN_eq {α : Type u} (l : List α) (n : Nat) : takeN l n = l.take n := by
  induction l generalizing n with
  | nil => cases n <;> simp [takeN]
  | cons x l ih => cases n <;> simp [takeN, ih]
theorem dropN_eq {α : Type u} (l : List α) (n : Nat) : dropN l n = l.drop n := by
  induction l generalizing n with
  | nil => cases n <;> simp [dropN]
  | cons x l ih => cases n <;> simp [dropN, ih]

/-- cs with vs written from i on. -/
def writeN {α : Type u} : List α → Nat → List α → List α
  | l, _, [] => l
  | [], _, _ => []
  | _ :: l, 0, v :: vs => v :: writeN l 0 vs
  | x :: l, n + 1, vs => x :: writeN l n vs

/-- The cells of a value. -/
def cellsOf : SV → List SV
  | .agg cs => cs
  | v => [v]

theorem den_cellsOf (v : SV) : (den v).cells = (denL (cellsOf v)).toArray ∨ ∃ c, v = .raw (.agg c) := by
  cases v with
  | raw u => cases u <;> first | (left; rfl) | (right; exact ⟨_, rfl⟩)
  | _ => left; rfl

/-- Is it surely a value of one cell? -/
def oneSV : SV → Bool
  | .agg _ | .tuple _ | .raw (.agg _) | .raw (.tuple _) => false
  | .raw (.int ..) | .raw (.bool _) | .raw (.string _) | .raw (.pointer _) | .raw (.slice ..) | .raw (.map _) | .raw (.func ..) | .raw .nilFunc | .raw (.iface ..) | .raw .nilIface => true
  | .raw _ => false
  | _ => true
def allOne : List SV → Bool
  | [] => true
  | v :: l => oneSV v && allOne l

theorem oneCell_of_oneSV (v : SV) (h : oneSV v = true) : (den v).oneCell' = true := by
  cases v with
  | raw u => cases u <;> simp_all [oneSV, den, Value.oneCell']
  | _ => simp_all [oneSV, den, Value.oneCell']

theorem oneCells_of_allOne (l : List SV) (h : allOne l = true) : ∀ u ∈ denL l, u.oneCell' = true := by
  induction l with
  | nil => intro u hu; cases hu
  | cons v l ih =>
    simp only [allOne, Bool.and_eq_true] at h
    intro u hu
    simp only [denL, List.mem_cons] at hu
    rcases hu with rfl | hu
    · exact oneCell_of_oneSV v h.1
    · exact ih h.2 u hu


inductive Res where
  | ok (v : SV)
  | req (c : Prop) (v : SV)
  | alt {β : Type} (c : Prop) (o : Option β) (f : β → SV) (z : SV)
  | no

def Res.holds (T : SV → Prop) (stop : Prop) : Res → Prop
  | .ok v => T v
  | .req c v => c ∧ T v
  | .alt c o f z => c ∧ match o with
    | some v => T (f v)
    | none => T z
  | .no => stop

def evals (st : Sy) : List Operand → List SV
  | [] => []
  | x :: l => st.eval x :: evals st l

theorem denL_evals (st : Sy) (l : List Operand) : denL (evals st l) = l.map (actOf st).eval := by
  induction l with
  | nil => rfl
  | cons x l ih => simp only [evals, denL, den_eval, ih, List.map_cons]

/-- The byte at a place of a text. -/
def sAt (s : ByteArray) (i : Int) : Int := (((s.data[i.toNat]?).map (·.toNat)).getD 0 : Nat)

def lenS : SV → Option Int
  | .str s => some (s.size : Int)
  | _ => none
def lenV : SV → Option Int
  | .vec _ _ n _ => some (n : Int)
  | .sub _ _ _ _ lo hi => some ((hi - lo : Nat) : Int)
  | .raw (.slice _ n _) => some (n : Int)
  | _ => none

def pickV (c : Bool) : SV → SV → SV
  | .bool x, .bool y => .bool (cond c x y)
  | x, y => cond c x y

/-- A part of a struct. -/
def partV (P : Program) (t : TypeId) (xs : List SV) (off : Nat) : Option SV :=
  match tlay P t with
  | some (true, k) => some (.agg (takeN (dropN xs off) k))
  | some (false, _) => nth xs off
  | none => none
def eqFs (P : Program) (e : TypeId → SV → SV → Option Bool) (xs ys : List SV) : List Field → Option Bool
  | [] => some true
  | f :: fs => match decide (f.name = "_") with
    | true => eqFs P e xs ys fs
    | false => match partV P f.type xs f.offset, partV P f.type ys f.offset with
      | some a, some b => match e f.type a b, eqFs P e xs ys fs with
        | some r, some rs => some (r && rs)
        | _, _ => none
      | _, _ => none
/-- Equality, as far as it is told by the values alone. -/
def eqV (P : Program) : Nat → TypeId → SV → SV → Option Bool
  | 0, _, _, _ => none
  | d + 1, t, x, y => match P.underlying t, x, y with
    | some .bool, .bool a, .bool b => some (a == b)
    | some (.int _), .int k a, .int k' b => if k = k' then some (a == b) else none
    | some .string, .str a, .str b => some (sEq a b)
    | some (.struct fs), .agg xs, .agg ys => match P.stoodInHeld t with
      | true => none
      | false => eqFs P (eqV P d) xs ys fs.toList
    | some (.interface _), .raw .nilIface, .raw .nilIface => some true
    | some (.interface _), .raw .nilIface, .iface _ _ => some false
    | some (.interface _), .iface _ _, .raw .nilIface => some false
    | some (.pointer _), .raw (.pointer none), .raw (.pointer none) => some true
    | some (.pointer _), .raw (.pointer none), .ptr .. => some false
    | some (.pointer _), .ptr .., .raw (.pointer none) => some false
    | some (.pointer _), .raw (.pointer none), .eptr .. => some false
    | some (.pointer _), .eptr .., .raw (.pointer none) => some false
    | some (.func ..), .raw .nilFunc, .raw .nilFunc => some true
    | some (.func ..), .raw .nilFunc, .func .. => some false
    | some (.func ..), .func .., .raw .nilFunc => some false
    | some (.slice _), .vec _ ao _ _, .raw (.slice none _ _) => some ao.isNone
    | some (.slice _), .raw (.slice none _ _), .raw (.slice none _ _) => some true
    | some (.map ..), .raw (.map none), .raw (.map none) => some true
    | some (.map ..), .map .., .raw (.map none) => some false
    | _, _, _ => none
def constB : Operand → Bool
  | .const _ => true
  | _ => false
def eqTop (P : Program) (t : TypeId) (x y : Operand) (vx vy : SV) : Option Bool :=
  match vx, vy with
  | .raw .nilIface, .raw .nilIface => match constB x || constB y with
    | true => eqV P 100 t vx vy
    | false => none
  | .agg _, .agg _ => match P.eqGuardType P.depth t with
    | true => none
    | false => eqV P 100 t vx vy
  | _, _ => eqV P 100 t vx vy

section
variable {P : Program} {w : World}
theorem run_partV (t : TypeId) (xs : List SV) (off : Nat) (v : SV) (h : partV P t xs off = some v) : (part t (denL xs).toArray off).run P w = .ok (den v) w := by
  unfold partV at h
  split at h
  · rename_i k e
    cases h
    simp only [part, Sem.run_bind, (tlay_agg e w).1, (tlay_agg e w).2, Result.andThen_ok, Sem.run_pure, if_true]
    simp [denL_eq, takeN_eq, dropN_eq, List.map_take, List.map_drop, List.extract_eq_take_drop, den]
  · rename_i k e
    rw [nth_eq] at h
    have hg : (denL xs).toArray[off]? = some (den v) := by simp [denL_eq, h]
    simp only [part, Sem.run_bind, (tlay_one e w).1, Result.andThen_ok, Bool.false_eq_true, if_false, hg, Sem.run_pure]
  · cases h

theorem run_eqFs (d : Nat) (e : TypeId → SV → SV → Option Bool) (he : ∀ t x y b, e t x y = some b → (Op.equalIn d t (den x) (den y)).run P w = .ok b w) (xs ys : List SV) : ∀ (fs : List Field) (b : Bool),
    eqFs P e xs ys fs = some b → (Op.eqFields d (denL xs).toArray (denL ys).toArray fs).run P w = .ok b w
  | [], b, h => by simp only [eqFs, Option.some.injEq] at h; subst h; rfl
  | f :: fs, b, h => by
    simp only [eqFs] at h
    split at h
    · rename_i hn
      simp only [decide_eq_true_eq] at hn
      simp only [Op.eqFields, hn, ne_eq, not_true_eq_false, if_false]
      exact run_eqFs d e he xs ys fs b h
    · rename_i hn
      simp only [decide_eq_false_iff_not] at hn
      split at h
      · rename_i a c ea ec
        split at h
        · rename_i r rs er ers
          cases h
          have ih := run_eqFs d e he xs ys fs rs ers
          simp only [Op.eqFields, ne_eq, hn, not_false_eq_true, if_true, Sem.run_bind, run_partV _ _ _ _ ea, run_partV _ _ _ _ ec, Result.andThen_ok, he _ _ _ _ er]
          cases r
          · simp
          · simpa using ih
        · cases h
      · cases h

theorem run_eqV : ∀ (n d : Nat) (t : TypeId) (x y : SV) (b : Bool), n ≤ d → eqV P n t x y = some b → (Op.equalIn d t (den x) (den y)).run P w = .ok b w
  | 0, _, _, _, _, _, _, h => by cases h
  | n + 1, 0, _, _, _, _, hd, _ => by omega
  | n + 1, d + 1, t, x, y, b, hd, h => by
    simp only [eqV] at h
    split at h
    case h_2 => 
      rename_i k k1 a k2 c e1
      split at h
      · rename_i hk
        cases h; subst hk
        exact run_equalIn_int w d t _ _ _ _ e1
      · cases h
    case h_4 =>
      rename_i fs xs ys e1
      split at h
      · cases h
      · rename_i hs
        have hf : P.fieldsOf t = fs := by simp [Program.fieldsOf, e1]
        have := run_equalIn_struct (P := P) w d t (denL xs).toArray (denL ys).toArray (by rw [hf]; exact e1) hs
        simp only [den]
        rw [this, hf]
        exact run_eqFs d (eqV P n) (fun t x y b => run_eqV n d t x y b (by omega)) xs ys _ b h
    case h_1 => rename_i a c e1; cases h; exact run_equalIn_bool' w d t _ _ e1
    case h_3 => rename_i a c e1; cases h; exact run_equalIn_string w d t _ _ e1
    all_goals first
      | (cases h; done)
      | (cases h; rename_i e1; simp [Op.equalIn, run_underlying e1, den]; done)
      | (rename_i ao _ _ _ _ e1; cases ao <;> cases h <;> simp [Op.equalIn, run_underlying e1, den]; done)
      | skip

theorem binOp_eqV (d : Nat) (t : TypeId) (vx vy : SV) (b : Bool) (h : eqV P (d + 1) t vx vy = some b) (he : (Op.equal t (den vx) (den vy)).run P w = .ok b w) :
    (binOp .eql t (den vx) (den vy)).run P w = .ok (.bool b) w ∧ (binOp .neq t (den vx) (den vy)).run P w = .ok (.bool (!b)) w := by
  simp only [eqV] at h
  split at h
  case h_2 =>
    split at h
    · rename_i hk; cases h; subst hk; constructor <;> simp [binOp, den, Op.intCmp]; rfl
    · cases h
  case h_4 => clear h; simp only [den] at he; simp [binOp, den, he]
  all_goals first
    | (cases h; done)
    | (cases h; simp [binOp, den, Op.stringOp, sEq]; done)
    | (clear h; simp only [den] at he; simp [binOp, den, he]; done)
    | skip

theorem eqGuard_eqV (d : Nat) (op : BinOp) (hop : op = .eql ∨ op = .neq) (t : TypeId) (x y : Operand) (vx vy : SV) (b : Bool) (h : eqV P (d + 1) t vx vy = some b) (hn : ∀ (_ : vx = .raw .nilIface) (_ : vy = .raw .nilIface), False) (ha : ∀ xs ys (_ : vx = .agg xs) (_ : vy = .agg ys), False) :
    (eqGuard op t x y (den vx) (den vy)).run P w = .ok () w := by
  simp only [eqV] at h
  split at h <;> first
    | (cases h; done)
    | (clear h; rcases hop with rfl | rfl <;> simp [eqGuard, den]; done)
    | (exact (hn rfl rfl).elim)
    | (exact (ha _ _ rfl rfl).elim)
    | skip

theorem run_eqTop (op : BinOp) (hop : op = .eql ∨ op = .neq) (t : TypeId) (x y : Operand) (vx vy : SV) (b : Bool) (h : eqTop P t x y vx vy = some b) :
    (eqGuard op t x y (den vx) (den vy)).run P w = .ok () w ∧ (binOp .eql t (den vx) (den vy)).run P w = .ok (.bool b) w ∧ (binOp .neq t (den vx) (den vy)).run P w = .ok (.bool (!b)) w := by
  have key : ∀ b, eqV P (99 + 1) t vx vy = some b → (binOp .eql t (den vx) (den vy)).run P w = .ok (.bool b) w ∧ (binOp .neq t (den vx) (den vy)).run P w = .ok (.bool (!b)) w :=
    fun b h => binOp_eqV 99 t vx vy b h (run_eqV 100 10000 t vx vy b (by decide) h)
  unfold eqTop at h
  split at h
  · split at h
    · rename_i hc
      refine ⟨?_, key b h⟩
      clear h key
      rcases hop with rfl | rfl <;> cases x <;> cases y <;> first
        | (simp [eqGuard, den]; done)
        | (simp [constB] at hc; done)
    · cases h
  · split at h
    · cases h
    · rename_i hm
      exact ⟨run_eqGuard_agg w op t x y _ _ hm, key b h⟩
  · rename_i hn ha
    exact ⟨eqGuard_eqV 99 op hop t x y vx vy b h hn ha, key b h⟩
end

def xslice (P : Program) (st : Sy) (t : TypeId) (x : Operand) (lo hi : Option Operand) : Res :=
  match P.underlying t, st.eval x, lo, hi with
    | some .string, .str s, some l, none => match st.eval l with
      | .int _ a => .req (0 ≤ a ∧ a ≤ (s.size : Int)) (.str (s.extract a.toNat s.size))
      | _ => .no
    | some .string, .str s, none, some h => match st.eval h with
      | .int _ b => .req (0 ≤ b ∧ b ≤ (s.size : Int)) (.str (s.extract 0 b.toNat))
      | _ => .no
    | some .string, .str s, some l, some h => match st.eval l, st.eval h with
      | .int _ a, .int _ b => .req (0 ≤ a ∧ a ≤ b ∧ b ≤ (s.size : Int)) (.str (s.extract a.toNat b.toNat))
      | _, _ => .no
    | some (.slice e), .vec l ao n cap, some lo, none => match st.eval lo, tslice P t with
      | .int _ a, some (_, sz) => .req (0 ≤ a ∧ a ≤ (n : Int) ∧ n ≤ cap) (.sub l ao cap sz a.toNat n)
      | _, _ => .no
    | some (.slice e), .vec l ao n cap, none, some hi => match st.eval hi, tslice P t with
      | .int _ b, some (_, sz) => .req (0 ≤ b ∧ b ≤ (cap : Int)) (.sub l ao cap sz 0 b.toNat)
      | _, _ => .no
    | some (.slice e), .vec l ao n cap, some lo, some hi => match st.eval lo, st.eval hi, tslice P t with
      | .int _ a, .int _ b, some (_, sz) => .req (0 ≤ a ∧ a ≤ b ∧ b ≤ (cap : Int)) (.sub l ao cap sz a.toNat b.toNat)
      | _, _, _ => .no
    | _, _, _, _ => .no

/-- A type that is there, and no interface. -/
def plainT (P : Program) (t : TypeId) : Bool :=
  match P.underlying t with
  | some (.interface _) => false
  | some _ => true
  | none => false

def xpure (P : Program) (st : Sy) (op : Op) : Res :=
  match op with
  | .move x => .ok (st.eval x)
  | .assign x => .ok (st.eval x)
  | .pick c x y => match st.eval c with
    | .bool b => .ok (pickV b (st.eval x) (st.eval y))
    | _ => .no
  | .nilCheck x => match st.eval x with
    | .ptr l b off => .ok (.ptr l b off)
    | .eptr l b base sz i fo => .ok (.eptr l b base sz i fo)
    | .raw (.pointer (some a)) => .ok (.raw (.pointer (some a)))
    | .func (.func f) a b => .ok (.func (.func f) a b)
    | .iface t v => .ok (.iface t v)
    | _ => .no
  | .binOp op t x y _ => match st.eval x, st.eval y with
    | .int k a, .int k' b => match shI op k a b with
      | some v => .req (0 ≤ b) v
      | none => if k = k' then (match binI op k a b with
        | some v => .ok v
        | none => match divI op k a b with
          | some v => .req (b ≠ 0) v
          | none => .no) else .no
    | .str a, .str b => match op with
      | .add => .req ((a.size + b.size : Nat) ≤ 9223372036854775807) (.str (a ++ b))
      | _ => match binS op a b with
        | some v => .ok v
        | none => .no
    | vx, vy => match op with
      | .eql => match eqTop P t x y vx vy with
        | some b => .ok (.bool b)
        | none => .no
      | .neq => match eqTop P t x y vx vy with
        | some b => .ok (.bool (!b))
        | none => .no
      | _ => .no
  | .unOp op _ x => match op, st.eval x with
    | .not, .bool b => .ok (.bool (!b))
    | .neg, .int k n => .ok (.int k (k.wrap (0 - n)))
    | _, _ => .no
  | .convert src dst x => match P.underlying src, P.underlying dst, st.eval x with
    | some (.int _), some (.int k), .int _ n => .ok (.int k (k.wrap n))
    | some .string, some .string, .str s => .ok (.str s)
    | _, _, _ => .no
  | .makeInterface t x => if P.concrete t then .ok (.iface t (st.eval x)) else .no
  | .typeAssert x xt a c => match st.eval x with
    | .iface t v => match plainT P a with
      | true => match Nat.beq t a with
        | true => match c with
          | true => .ok (.tuple [v, .bool true])
          | false => .ok v
        | false => .no
      | false => .no
    | _ => .no
  | .makeFunc fn a b => .ok (.func fn (evals st a.toList) (evals st b.toList))
  | .fieldAddr s x f => match st.eval x, tfield P s f with
    | .ptr l b off, some k => .ok (.ptr l b (off + k))
    | .eptr l b base sz i fo, some k => .ok (.eptr l b base sz i (fo + k))
    | _, _ => .no
  | .extract x i => match st.eval x with
    | .tuple vs => match nth vs i with
      | some v => .ok v
      | none => .no
    | _ => .no
  | .field t x f => match st.eval x, tfieldV P t f with
    | .agg cs, some (off, true, k) => .ok (.agg (takeN (dropN cs off) k))
    | .agg cs, some (off, false, _) => match nth cs off with
      | some v => .ok v
      | none => .no
    | _, _ => .no
  | .index t x i => match P.underlying t, st.eval x, st.eval i with
    | some .string, .str s, .int _ n => .req (0 ≤ n ∧ n < (s.size : Int)) (.int .u8 (sAt s n))
    | _, _, _ => .no
  | .slice t x lo hi mx => match mx with
    | none => xslice P st t x lo hi
    | some _ => .no
  | .call ⟨.builtin .len, args, ts⟩ => match args.toList, ts.toList with
    | [x], [t] => match P.underlying t with
      | some .string => match lenS (st.eval x) with
        | some n => .ok (.int .i64 n)
        | none => .no
      | some (.slice _) => match lenV (st.eval x) with
        | some n => .ok (.int .i64 n)
        | none => .no
      | _ => .no
    | _, _ => .no
  | .call ⟨.builtin .max, args, _⟩ => match evals st args.toList with
    | [.int k a, .int k' b] => if k = k' then .ok (.int k (mxI a b)) else .no
    | _ => .no
  | .call ⟨.builtin .min, args, _⟩ => match evals st args.toList with
    | [.int k a, .int k' b] => if k = k' then .ok (.int k (mnI a b)) else .no
    | _ => .no
  | _ => .no

theorem den_pickV (b : Bool) (x y : SV) : den (pickV b x y) = if b = true then den x else den y := by
  cases b <;> cases x <;> cases y <;> rfl

theorem run_binI {P : Program} {w : World} (op : BinOp) (t : TypeId) (k : IntKind) (a b : Int) (v : SV) (h : binI op k a b = some v) : (binOp op t (.int k a) (.int k b)).run P w = .ok (den v) w := by
  cases op <;> simp only [binI, Option.some.injEq, reduceCtorEq] at h <;> subst h <;> simp [binOp, Op.intArith, Op.intCmp, den]

theorem run_divI {P : Program} {w : World} (op : BinOp) (t : TypeId) (k : IntKind) (a b : Int) (v : SV) (h : divI op k a b = some v) (hb : b ≠ 0) : (binOp op t (.int k a) (.int k b)).run P w = .ok (den v) w := by
  cases op <;> simp only [divI, Option.some.injEq, reduceCtorEq] at h <;> subst h <;> simp [binOp, Op.intDiv, den, hb]

theorem run_binS {P : Program} {w : World} (op : BinOp) (t : TypeId) (a b : ByteArray) (v : SV) (h : binS op a b = some v) : (binOp op t (.string a) (.string b)).run P w = .ok (den v) w := by
  cases op <;> simp only [binS, Option.some.injEq, reduceCtorEq] at h <;> subst h <;> simp [binOp, Op.stringOp, den, sEq, sLt]

theorem run_eqGuard_int {P : Program} {w : World} (op : BinOp) (t : TypeId) (x y : Operand) (k k' : IntKind) (a b : Int) : (eqGuard op t x y (.int k a) (.int k' b)).run P w = .ok () w := by
  unfold eqGuard; cases op <;> simp
theorem run_eqGuard_str {P : Program} {w : World} (op : BinOp) (t : TypeId) (x y : Operand) (a b : ByteArray) : (eqGuard op t x y (.string a) (.string b)).run P w = .ok () w := by
  unfold eqGuard; cases op <;> simp

section
variable {P : Program} {W w : World} {F : List Ch} {st : Sy} {o : Oper} {Q : Exit → Act → World → Prop} {K : Act → World → Prop} {N : Sy → Prop}

theorem yields_xpure {T : SV → Prop} {Goal : Prop} (S : Prop) (fin : ∀ v, (execOp (actOf st).eval o).run P w = .ok (.value (den v)) w → T v → Goal) (hx : (xpure P st o.op).holds T S) (hS : S → Goal) : Goal := by
  obtain ⟨dst, op, type, pos, after, guard⟩ := o
  have E := den_eval st
  cases op <;> simp only [xpure] at hx <;> try exact hS hx
  case move x => exact fin _ (by simp [execOp, E]) hx
  case assign x => exact fin _ (by simp [execOp, E]) hx
  case pick c x y =>
    have hc := E c
    split at hx
    · rename_i b hb
      rw [hb] at hc
      refine fin _ ?_ hx
      simp only [execOp, ← hc, den, asBool, Sem.run_bind, Sem.run_pure, Result.andThen_ok]
      rw [← E x, ← E y, den_pickV]
    · exact hS hx
  case nilCheck x =>
    have hx' := E x
    split at hx
    all_goals first
      | exact hS hx
      | skip
    all_goals
      rename_i heq
      rw [heq] at hx'
      refine fin _ ?_ hx
      simp only [execOp, ← hx', den, Sem.run_pure]
  case binOp op t x y t2 =>
    have h1 := E x
    have h2 := E y
    split at hx
    · rename_i k a k' b e1 e2
      rw [e1] at h1; rw [e2] at h2
      split at hx
      · rename_i v hv
        obtain ⟨hb, hx⟩ := hx
        have hg := run_eqGuard_int (P := P) (w := w) op t x y k k' a b
        have hb' : ¬ b < 0 := by omega
        refine fin _ ?_ hx
        cases op <;> simp only [shI, Option.some.injEq, reduceCtorEq] at hv <;> subst hv
        · simp only [execOp, ← h1, ← h2, den, Sem.run_bind, hg, Result.andThen_ok]
          simp [binOp, Op.shift, hb']
        · simp only [execOp, ← h1, ← h2, den, Sem.run_bind, hg, Result.andThen_ok]
          simp [binOp, Op.shift, hb']
      split at hx
      · rename_i hk; subst hk
        have hg := run_eqGuard_int (P := P) (w := w) op t x y k k a b
        split at hx
        · rename_i v hv
          refine fin _ ?_ hx
          simp only [execOp, ← h1, ← h2, den, Sem.run_bind, hg, Result.andThen_ok, run_binI op t k a b v hv, Sem.run_pure]
        · split at hx
          · rename_i v hv
            refine fin _ ?_ hx.2
            simp only [execOp, ← h1, ← h2, den, Sem.run_bind, hg, Result.andThen_ok, run_divI op t k a b v hv hx.1, Sem.run_pure]
          · exact hS hx
      · exact hS hx
    · rename_i a b e1 e2
      rw [e1] at h1; rw [e2] at h2
      have hg := run_eqGuard_str (P := P) (w := w) op t x y a b
      split at hx
      · refine fin _ ?_ hx.2
        have hle : ¬ (9223372036854775807 < (a.size : Int) + (b.size : Int)) := by have := hx.1; omega
        simp [execOp, ← h1, ← h2, den, hg, binOp, Op.stringOp, hle]
      · split at hx
        · rename_i v hv
          refine fin _ ?_ hx
          simp only [execOp, ← h1, ← h2, den, Sem.run_bind, hg, Result.andThen_ok, run_binS _ t a b v hv, Sem.run_pure]
        · exact hS hx
    · rename_i n1 n2
      split at hx
      · split at hx
        · rename_i b hb
          obtain ⟨hg, he, _⟩ := run_eqTop (w := w) .eql (.inl rfl) t x y _ _ b hb
          refine fin _ ?_ hx
          simp only [execOp, ← h1, ← h2, Sem.run_bind, hg, Result.andThen_ok, he, Sem.run_pure, den]
        · exact hS hx
      · split at hx
        · rename_i b hb
          obtain ⟨hg, _, he⟩ := run_eqTop (w := w) .neq (.inr rfl) t x y _ _ b hb
          refine fin _ ?_ hx
          simp only [execOp, ← h1, ← h2, Sem.run_bind, hg, Result.andThen_ok, he, Sem.run_pure, den]
        · exact hS hx
      · exact hS hx
  case unOp op t x =>
    have h1 := E x
    split at hx
    · rename_i b e1; rw [e1] at h1
      refine fin _ ?_ hx
      simp [execOp, ← h1, den, Op.unary]
    · rename_i k n e1; rw [e1] at h1
      refine fin _ ?_ hx
      simp [execOp, ← h1, den, Op.unary, Op.intArith]
    · exact hS hx
  case convert src dst' x =>
    have h1 := E x
    split at hx
    · rename_i k1 k k2 n e1 e2 e3; rw [e3] at h1
      refine fin _ ?_ hx
      simp [execOp, ← h1, den, convert, underlying, e1, e2, Conv.intToInt]
    · rename_i s e1 e2 e3; rw [e3] at h1
      refine fin _ ?_ hx
      simp [execOp, ← h1, den, convert, underlying, e1, e2]
    · exact hS hx
  case makeInterface t x =>
    split at hx
    · rename_i hc
      refine fin _ ?_ hx
      simp only [execOp, Sem.run_bind, run_makeInterface (P := P) (w := w) t _ hc, Result.andThen_ok, Sem.run_pure, den, E]
    · exact hS hx
  case typeAssert x xt a c =>
    have h1 := E x
    split at hx
    · rename_i t v e1; rw [e1] at h1
      split at hx
      · rename_i hp
        split at hx
        · rename_i ht
          rw [Nat.beq_eq] at ht
          subst ht
          have hrun : ∀ c : Bool, (Instr.typeAssert (.iface t (den v)) xt t c).run P w = .ok (if c then .tuple #[den v, .bool true] else den v) w := by
            intro c
            unfold plainT at hp
            cases hu : P.underlying t with
            | none => rw [hu] at hp; cases hp
            | some d =>
              rw [hu] at hp
              unfold Instr.typeAssert
              simp only [Sem.run_bind, underlying, run_program, Result.andThen_ok, hu, Sem.run_pure]
              cases d <;> first | (cases hp; done) | simp
          split at hx
          · refine fin _ ?_ hx
            simp only [execOp, ← h1, den, Sem.run_bind, hrun, Result.andThen_ok, Sem.run_pure, denL]
            rfl
          · refine fin _ ?_ hx
            simp only [execOp, ← h1, den, Sem.run_bind, hrun, Result.andThen_ok, Sem.run_pure]
            rfl
        · exact hS hx
      · exact hS hx
    · exact hS hx
  case makeFunc fn a b =>
    refine fin _ ?_ hx
    simp only [execOp, Instr.makeFunc, den, denL_evals, Sem.run_bind, Sem.run_pure, Result.andThen_ok]
    congr 3 <;> (apply Array.ext'; simp)
  case extract x i =>
    have h1 := E x
    split at hx
    · rename_i vs e1; rw [e1] at h1
      split at hx
      · rename_i v hv
        refine fin _ ?_ hx
        rw [nth_eq] at hv
        simp [execOp, ← h1, den, Instr.extract, denL_eq, hv]
      · exact hS hx
    · exact hS hx
  case fieldAddr s x f =>
    have h1 := E x
    have hf : ∀ k, tfield P s f = some k → ∀ a : Addr, a.spot = none → (Instr.fieldAt s (.pointer (some a)) f).run P w = .ok (.pointer (some ⟨a.block, a.off + k, none⟩)) w := by
      intro k hk a ha
      unfold tfield at hk
      split at hk
      · rename_i fs hfs
        obtain ⟨fd, hfd, h2⟩ := Option.bind_eq_some_iff.1 hk
        split at h2
        · rename_i i hi
          split at h2
          · cases h2
          · rename_i h0
            simp only [Option.some.injEq] at h2
            subst h2
            have hadd : a.add fd.offset = ⟨a.block, a.off + fd.offset, none⟩ := by
              obtain ⟨b, off, sp⟩ := a
              simp only at ha; subst ha
              exact Addr.add_mid' b off fd.offset
            simp [Instr.fieldAt, underlying, hfs, hfd, Instr.sureAddr, fieldPlace, sizeOf, typeInfo, hi, h0, hadd]
        · cases h2
      · cases hk
    split at hx
    · rename_i l b off k e1 e2; rw [e1] at h1
      refine fin _ ?_ hx
      simp only [execOp, ← h1, den, Sem.run_bind, hf k e2 ⟨b, off, none⟩ rfl, Result.andThen_ok, Sem.run_pure]
    · rename_i l b base sz i fo k e1 e2; rw [e1] at h1
      refine fin _ ?_ hx
      simp only [execOp, ← h1, den, Sem.run_bind, hf k e2 ⟨b, base + (i * sz + fo), none⟩ rfl, Result.andThen_ok, Sem.run_pure, Nat.add_assoc]
    · exact hS hx
  case field t x f =>
    have h1 := E x
    have hf : ∀ off b k, tfieldV P t f = some (off, b, k) → ∀ cs : Array Value, ∃ e, tlay P e = some (b, k) ∧ (Instr.field t (.agg cs) f).run P w = (part e cs off).run P w := by
      intro off b k hk cs
      unfold tfieldV at hk
      split at hk
      · rename_i fs hfs
        obtain ⟨fd, hfd, h2⟩ := Option.bind_eq_some_iff.1 hk
        obtain ⟨x, hx1, hx2⟩ := Option.map_eq_some_iff.1 h2
        simp only [Prod.mk.injEq] at hx2
        obtain ⟨rfl, rfl, rfl⟩ := hx2
        exact ⟨fd.type, hx1, by simp [Instr.field, underlying, hfs, hfd, asAgg]⟩
      · cases hk
    split at hx
    · rename_i cs off k e1 e2; rw [e1] at h1
      obtain ⟨e, he, hrun⟩ := hf off true k e2 (denL cs).toArray
      refine fin _ ?_ hx
      simp only [execOp, ← h1, den, Sem.run_bind, hrun, part, (tlay_agg he w).1, (tlay_agg he w).2, Result.andThen_ok, Sem.run_pure, if_true]
      simp [denL_eq, takeN_eq, dropN_eq, List.map_take, List.map_drop, List.extract_eq_take_drop]
    · rename_i cs off k e1 e2; rw [e1] at h1
      split at hx
      · rename_i v hv
        obtain ⟨e, he, hrun⟩ := hf off false k e2 (denL cs).toArray
        refine fin _ ?_ hx
        rw [nth_eq] at hv
        have hg : (denL cs).toArray[off]? = some (den v) := by simp [denL_eq, hv]
        simp only [execOp, ← h1, den, Sem.run_bind, hrun, part, (tlay_one he w).1, Result.andThen_ok, Bool.false_eq_true, if_false, hg, Sem.run_pure]
      · exact hS hx
    · exact hS hx
  case index t x i =>
    have h1 := E x
    have h2 := E i
    split at hx
    · rename_i s k n e0 e1 e2; rw [e1] at h1; rw [e2] at h2
      refine fin _ ?_ hx.2
      obtain ⟨⟨g1, g2⟩, _⟩ := hx
      have hlt : n.toNat < s.size := by omega
      have hb : s[n.toNat]? = some s[n.toNat] := by simp [hlt]
      have hv : sAt s n = (s[n.toNat].toNat : Int) := by
        unfold sAt
        have : s.data[n.toNat]? = some s[n.toNat] := by
          rw [Array.getElem?_eq_getElem hlt]; rfl
        rw [this]; rfl
      simp [execOp, ← h1, ← h2, den, Instr.index, asIntOf, underlying, e0, g1, hb, hv]
    · exact hS hx
  case call c =>
    obtain ⟨callee, args, ts⟩ := c
    cases callee with
    | builtin b =>
      cases b <;> simp only at hx <;> try exact hS hx
      split at hx
      · rename_i x t e1 e2
        have hx1 := E x
        have ha : args = #[x] := by apply Array.ext'; simpa using e1
        have ht : ts = #[t] := by apply Array.ext'; simpa using e2
        subst ha; subst ht
        have hr1 : (execOp (actOf st).eval ⟨dst, .call ⟨.builtin .len, #[x], #[t]⟩, type, pos, after, guard⟩).run P w = (do pure (Next.value (← Builtin.len_ #[t] type #[den (st.eval x)])) : Sem Next).run P w := by
          rw [hx1]; simp [execOp, resolve, invoke, builtin]
        split at hx
        · rename_i hu
          split at hx
          · rename_i n hn
            refine fin _ ?_ hx
            rw [hr1]
            cases hv : st.eval x <;> rw [hv] at hn <;> simp only [lenS, Option.some.injEq, reduceCtorEq] at hn
            subst hn
            simp [Builtin.len_, underlying, hu, den, goInt]
          · exact hS hx
        · rename_i e hu
          split at hx
          · rename_i n hn
            refine fin _ ?_ hx
            rw [hr1]
            cases hv : st.eval x <;> rw [hv] at hn <;> first
              | (simp only [lenV, reduceCtorEq] at hn; done)
              | (simp only [lenV, Option.some.injEq] at hn; subst hn; simp [Builtin.len_, underlying, hu, den, goInt]; done)
              | skip
            rename_i u
            cases u <;> simp only [lenV, Option.some.injEq, reduceCtorEq] at hn
            subst hn; simp [Builtin.len_, underlying, hu, den, goInt]
          · exact hS hx
        · exact hS hx
      · exact hS hx
      · split at hx
        · rename_i k a k' b e
          have hev := denL_evals st args.toList
          rw [e] at hev
          split at hx
          · rename_i hk; subst hk
            refine fin _ ?_ hx
            have ha : args.map (actOf st).eval = #[.int k a, .int k b] := by apply Array.ext'; simp [← hev, denL, den]
            simp [execOp, resolve, invoke, builtin, ha, Builtin.max_, Builtin.max2, den, mxI]
          · exact hS hx
        · exact hS hx
      · split at hx
        · rename_i k a k' b e
          have hev := denL_evals st args.toList
          rw [e] at hev
          split at hx
          · rename_i hk; subst hk
            refine fin _ ?_ hx
            have ha : args.map (actOf st).eval = #[.int k a, .int k b] := by apply Array.ext'; simp [← hev, denL, den]
            simp [execOp, resolve, invoke, builtin, ha, Builtin.min_, Builtin.min2, den, mnI]
          · exact hS hx
        · exact hS hx
    | _ => exact hS hx
  case slice t x lo hi mx =>
    have h1 := E x
    have sb := @run_sliceBound P w
    cases mx with
    | some m => exact hS hx
    | none =>
      simp only [xslice] at hx
      split at hx
      · rename_i s l e0 e1
        rw [e1] at h1
        have h2 := E l
        split at hx
        · rename_i k a e2
          rw [e2] at h2
          obtain ⟨⟨g1, g2⟩, hx⟩ := hx
          refine fin _ ?_ hx
          simp [execOp, ← h1, ← h2, den, Instr.sliceAt, Instr.slice, Instr.sliceBounds, underlying, e0, sb k a s.size _ g1 g2]
        · exact hS hx
      · rename_i s h e0 e1
        rw [e1] at h1
        have h2 := E h
        split at hx
        · rename_i k b e2
          rw [e2] at h2
          obtain ⟨⟨g1, g2⟩, hx⟩ := hx
          refine fin _ ?_ hx
          simp [execOp, ← h1, ← h2, den, Instr.sliceAt, Instr.slice, Instr.sliceBounds, underlying, e0, sb k b s.size _ g1 g2]
        · exact hS hx
      · rename_i s l h e0 e1
        rw [e1] at h1
        have h2 := E l
        have h3 := E h
        split at hx
        · rename_i k a k2 b e2 e3
          rw [e2] at h2; rw [e3] at h3
          obtain ⟨⟨g1, g2, g3⟩, hx⟩ := hx
          refine fin _ ?_ hx
          have g4 : a ≤ (b.toNat : Int) := by omega
          simp [execOp, ← h1, ← h2, ← h3, den, Instr.sliceAt, Instr.slice, Instr.sliceBounds, underlying, e0, sb k2 b s.size _ (by omega) g3, sb k a b.toNat _ g1 g4]
        · exact hS hx
      · rename_i e l ao n cap lo e0 e1
        rw [e1] at h1
        have h2 := E lo
        split at hx
        · rename_i k a el sz e2 e3
          rw [e2] at h2
          obtain ⟨⟨g1, g2, g3⟩, hx⟩ := hx
          obtain ⟨i, hi, hsz⟩ : ∃ i, P.info? e = some i ∧ i.size = sz := by
            unfold tslice at e3; rw [e0] at e3
            obtain ⟨i, hi, he⟩ := Option.map_eq_some_iff.1 e3
            cases he; exact ⟨i, hi, rfl⟩
          refine fin _ ?_ hx
          simp [execOp, ← h1, ← h2, den, Instr.sliceAt, Instr.slice, Instr.sliceBounds, underlying, e0, sb k a n _ g1 g2, sizeOf, typeInfo, hi, hsz]
        · exact hS hx
      · rename_i e l ao n cap h e0 e1
        rw [e1] at h1
        have h2 := E h
        split at hx
        · rename_i k b el sz e2 e3
          rw [e2] at h2
          obtain ⟨⟨g1, g2⟩, hx⟩ := hx
          obtain ⟨i, hi, hsz⟩ : ∃ i, P.info? e = some i ∧ i.size = sz := by
            unfold tslice at e3; rw [e0] at e3
            obtain ⟨i, hi, he⟩ := Option.map_eq_some_iff.1 e3
            cases he; exact ⟨i, hi, rfl⟩
          refine fin _ ?_ hx
          simp [execOp, ← h1, ← h2, den, Instr.sliceAt, Instr.slice, Instr.sliceBounds, underlying, e0, sb k b cap _ g1 g2, sizeOf, typeInfo, hi]
        · exact hS hx
      · rename_i e l ao n cap lo h e0 e1
        rw [e1] at h1
        have h2 := E lo
        have h3 := E h
        split at hx
        · rename_i k a k2 b el sz e2 e3 e4
          rw [e2] at h2; rw [e3] at h3
          obtain ⟨⟨g1, g2, g3⟩, hx⟩ := hx
          obtain ⟨i, hi, hsz⟩ : ∃ i, P.info? e = some i ∧ i.size = sz := by
            unfold tslice at e4; rw [e0] at e4
            obtain ⟨i, hi, he⟩ := Option.map_eq_some_iff.1 e4
            cases he; exact ⟨i, hi, rfl⟩
          refine fin _ ?_ hx
          have g4 : a ≤ (b.toNat : Int) := by omega
          simp [execOp, ← h1, ← h2, ← h3, den, Instr.sliceAt, Instr.slice, Instr.sliceBounds, underlying, e0, sb k2 b cap _ (by omega) g3, sb k a b.toNat _ g1 g4, sizeOf, typeInfo, hi, hsz]
        · exact hS hx
      · exact hS hx
end
end Go.Proofs.Ytihajdkipkfiiaa
