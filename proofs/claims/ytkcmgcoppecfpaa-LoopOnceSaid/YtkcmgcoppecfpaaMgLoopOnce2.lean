import Derived.Test.YtkcmgcoppecfpaaMgLoopOnce1
set_option linter.unusedVariables false
set_option linter.unusedSimpArgs false
set_option linter.unnecessarySimpa false
set_option maxHeartbeats 0
set_option maxRecDepth 100000
/- The symbolic executor: operations on memory; the run. -/
namespace Go.Proofs.Ytkcmgcoppecfpaa
open Go Go.RowKit
universe u

def Addr.blkD (ao : Option Addr) : Nat := (ao.getD ⟨0, 0, none⟩).block
def Addr.offD (ao : Option Addr) : Nat := (ao.getD ⟨0, 0, none⟩).off

def newCells (st : Sy) (dst : Option Tmp) (cs : List SV) (T : TypeId) (N : Sy → Prop) : Prop :=
  ∀ b, N ({ st with heap := snoc st.heap ⟨.blk b, .cells cs T⟩ }.put dst (.ptr (lenN st.heap) b 0))

def xload (P : Program) (st : Sy) (t : TypeId) (p : SV) : Res :=
  match p with
  | .ptr l b off => match nth st.heap l with
    | some ⟨.blk b', .cells cs _⟩ => match tlay P t with
      | some (false, _) => match nth cs off with
        | some v => .req (b' = b) v
        | none => .no
      | some (true, k) => .req (b' = b ∧ lenN (takeN (dropN cs off) k) = k) (.agg (takeN (dropN cs off) k))
      | none => .no
    | _ => .no
  | .eptr l b base sz i fo => match nth st.heap l with
    | some ⟨.sl ao cap, .vecL _ sz' enc xs d⟩ => match tlay P t with
      | some (false, _) => match nth (enc (xs.getD i d)) fo with
        | some v => .req (b = Addr.blkD ao ∧ base = Addr.offD ao ∧ sz = sz' ∧ i < xs.length) v
        | none => .no
      | some (true, k) => .req (b = Addr.blkD ao ∧ base = Addr.offD ao ∧ sz = sz' ∧ i < xs.length ∧ lenN (takeN (dropN (enc (xs.getD i d)) fo) k) = k) (.agg (takeN (dropN (enc (xs.getD i d)) fo) k))
      | none => .no
    | some ⟨.sl ao cap, .vecV _ sz' n cs⟩ => match tlay P t with
      | some (false, _) => match nth cs (i * sz' + fo) with
        | some v => .req (b = Addr.blkD ao ∧ base = Addr.offD ao ∧ sz = sz') v
        | none => .no
      | some (true, k) => .req (b = Addr.blkD ao ∧ base = Addr.offD ao ∧ sz = sz' ∧ lenN (takeN (dropN cs (i * sz' + fo)) k) = k) (.agg (takeN (dropN cs (i * sz' + fo)) k))
      | none => .no
    | some ⟨.sl ao cap, .roL sz' enc xs d⟩ => match tlay P t with
      | some (false, _) => match nth (enc (xs.getD i d)) fo with
        | some v => .req (b = Addr.blkD ao ∧ base = Addr.offD ao ∧ sz = sz' ∧ i < xs.length) v
        | none => .no
      | some (true, k) => .req (b = Addr.blkD ao ∧ base = Addr.offD ao ∧ sz = sz' ∧ i < xs.length ∧ lenN (takeN (dropN (enc (xs.getD i d)) fo) k) = k) (.agg (takeN (dropN (enc (xs.getD i d)) fo) k))
      | none => .no
    | _ => .no
  | _ => .no

def xstore (P : Program) (st : Sy) (t : TypeId) (p v : SV) (N : Sy → Prop) (S : Prop) : Prop :=
  match p with
  | .ptr l b off => match nth st.heap l with
    | some ⟨.blk b', .cells cs T⟩ => match tlay P t with
      | some (_, k) => (b' = b ∧ allOne (cellsOf v) = true ∧ lenN (cellsOf v) = k ∧ off + k ≤ lenN cs) ∧ N { st with heap := setN st.heap l ⟨.blk b', .cells (writeN cs off (cellsOf v)) T⟩ }
      | none => S
    | _ => S
  | .eptr l b base sz i fo => match nth st.heap l with
    | some ⟨.sl ao cap, .vecL T sz' enc xs d⟩ => match tlay P t with
      | some (_, k) => (b = Addr.blkD ao ∧ base = Addr.offD ao ∧ sz = sz' ∧ i < xs.length ∧ allOne (cellsOf v) = true ∧ lenN (cellsOf v) = k ∧ fo + k ≤ sz) ∧
          ∃ e, denL (enc e) = denL (writeN (enc (xs.getD i d)) fo (cellsOf v)) ∧ N { st with heap := setN st.heap l ⟨.sl ao cap, .vecL T sz' enc (xs.set i e) d⟩ }
      | none => S
    | _ => S
  | _ => S

def xindexAddr (P : Program) (st : Sy) (t : TypeId) (p i : SV) : Res :=
  match p, i with
  | .vec l ao n cap, .int _ j => match nth st.heap l, tslice P t with
    | some ⟨.sl ao' cap', .vecL _ sz' _ xs _⟩, some (_, sz) => .req (ao' = ao ∧ cap' = cap ∧ n = xs.length ∧ 0 ≤ j ∧ j < (n : Int)) (.eptr l (Addr.blkD ao) (Addr.offD ao) sz j.toNat 0)
    | some ⟨.sl ao' cap', .vecV _ sz' n' _⟩, some (_, sz) => .req (ao' = ao ∧ cap' = cap ∧ n = n' ∧ 0 ≤ j ∧ j < (n : Int)) (.eptr l (Addr.blkD ao) (Addr.offD ao) sz j.toNat 0)
    | some ⟨.sl ao' cap', .roL sz' _ xs _⟩, some (_, sz) => .req (ao' = ao ∧ cap' = cap ∧ n = xs.length ∧ 0 ≤ j ∧ j < (n : Int)) (.eptr l (Addr.blkD ao) (Addr.offD ao) sz j.toNat 0)
    | _, _ => .no
  | .sub l ao cap sz0 lo hi, .int _ j => match nth st.heap l, tslice P t with
    | some ⟨.sl ao' cap', .vecL _ sz' _ xs _⟩, some (_, sz) => .req (ao' = ao ∧ cap' = cap ∧ sz0 = sz ∧ hi ≤ xs.length ∧ 0 ≤ j ∧ j < ((hi - lo : Nat) : Int)) (.eptr l (Addr.blkD ao) (Addr.offD ao) sz (lo + j.toNat) 0)
    | _, _ => .no
  | .ptr l b off, .int _ j => match P.underlying t with
    | some (.array n e) => match P.info? e with
      | some i => match nth st.heap l with
        | some ⟨.sl ao' cap', .vecL _ sz' _ xs _⟩ => .req (ao' = some ⟨b, 0, none⟩ ∧ off = 0 ∧ n = xs.length ∧ 0 ≤ j ∧ j < (n : Int)) (.eptr l b 0 i.size j.toNat 0)
        | _ => .req (0 ≤ j ∧ j < (n : Int)) (.ptr l b (off + j.toNat * i.size))
      | none => .no
    | _ => .no
  | _, _ => .no

def fillV (places : List (Nat × Nat)) : List SV → List (Nat × SV) → Option (List SV)
  | cs, [] => some cs
  | cs, (i, v) :: rest => match nth places i with
    | some (off, k) => if lenN (cellsOf v) = k then fillV places (writeN cs off (cellsOf v)) rest else none
    | none => none


/-! ### They are sound -/

theorem run_loadVar_one {P : Program} {w : World} {t : TypeId} {k : Nat} (h : tlay P t = some (false, k)) {a : Addr} {v : Value} (hc : w.cell? a = some v) : (loadVar t a).run P w = .ok v w := by
  unfold loadVar
  simp only [Sem.run_bind, (tlay_one h w).1, Result.andThen_ok, Bool.false_eq_true, if_false]
  unfold load; simp only [Sem.run, hc]

theorem run_loadVar_agg {P : Program} {w : World} {t : TypeId} {k : Nat} (h : tlay P t = some (true, k)) {a : Addr} (vs : List Value) (hk : vs.length = k) (hc : ∀ j v, vs[j]? = some v → w.cell? (a.add j) = some v) :
    (loadVar t a).run P w = .ok (.agg vs.toArray) w := by
  unfold loadVar
  subst hk
  simp only [Sem.run_bind, (tlay_agg h w).1, (tlay_agg h w).2, Result.andThen_ok, if_true, run_loadCells_list (P := P) w a vs hc, Sem.run_pure]

theorem length_flatV {α : Type} {enc : α → List SV} {sz : Nat} (h : ∀ x, (enc x).length = sz) (xs : List α) : (flatV enc xs).length = xs.length * sz := by
  induction xs with
  | nil => simp [flatV]
  | cons x xs ih =>
    simp only [flatV, List.flatMap_cons, List.length_append, length_denL, h, List.length_cons, Nat.succ_mul] at ih ⊢
    omega

theorem flatV_get {α : Type} {enc : α → List SV} {sz : Nat} (h : ∀ x, (enc x).length = sz) (d : α) : ∀ (xs : List α) (i fo : Nat), i < xs.length → fo < sz →
    (flatV enc xs)[i * sz + fo]? = (denL (enc (xs.getD i d)))[fo]?
  | [], i, fo, hi, _ => by simp at hi
  | x :: xs, 0, fo, _, hf => by
    simp only [flatV, List.flatMap_cons, Nat.zero_mul, Nat.zero_add, List.getD_cons_zero]
    rw [List.getElem?_append_left (by rw [length_denL, h]; exact hf)]
  | x :: xs, i + 1, fo, hi, hf => by
    have ih := flatV_get h d xs i fo (by simpa using hi) hf
    simp only [flatV, List.flatMap_cons, List.getD_cons_succ] at ih ⊢
    rw [List.getElem?_append_right (by rw [length_denL, h, Nat.succ_mul]; omega), length_denL, h]
    rw [← ih]
    congr 1
    rw [Nat.succ_mul]; omega

theorem takeN_dropN_get (cs : List SV) (off k j : Nat) (v : Value) (h : (denL (takeN (dropN cs off) k))[j]? = some v) : (denL cs)[off + j]? = some v := by
  rw [takeN_eq, dropN_eq, denL_eq, List.map_take, List.map_drop, List.getElem?_take] at h
  split at h
  · rw [denL_eq]; simpa using h
  · cases h

section
variable {P : Program} {W w : World} {F : List Ch} {st : Sy} {o : Oper} {Q : Exit → Act → World → Prop} {K : Act → World → Prop} {N : Sy → Prop}

theorem Rep.cells {h : List Ent} {l b : Nat} {cs : List SV} {T : TypeId} (hr : Rep W F h w) (hl : nth h l = some ⟨.blk b, .cells cs T⟩) (i : Nat) : w.cell? ⟨b, i, none⟩ = (denL cs)[i]? := by
  obtain ⟨c, L, hc, hH, _⟩ := hr.get hl
  have hc' : c = [(b, .cells (denL cs).toArray T (0, 0))] := hc
  subst hc'
  rw [hH.cells .here]; simp

theorem Rep.vec {h : List Ent} {l cap sz : Nat} {ao : Option Addr} {α : Type} {enc : α → List SV} {xs : List α} {d : α} {T : TypeId} (hr : Rep W F h w) (hl : nth h l = some ⟨.sl ao cap, .vecL T sz enc xs d⟩) :
    (∀ x, (enc x).length = sz) ∧ xs.length ≤ cap ∧ (0 < xs.length → ao = some ⟨Addr.blkD ao, Addr.offD ao, none⟩) ∧
      ∀ i fo, i < xs.length → fo < sz → w.cell? ⟨Addr.blkD ao, Addr.offD ao + (i * sz + fo), none⟩ = (denL (enc (xs.getD i d)))[fo]? := by
  obtain ⟨c, L, ⟨hO, he⟩, hH, _⟩ := hr.get hl
  refine ⟨he, hO.2.1, fun h0 => ?_, fun i fo hi hf => ?_⟩
  · obtain ⟨g, off, rfl⟩ := hO.some h0
    rfl
  · obtain ⟨g, off, rfl⟩ := hO.some (by omega)
    have hlt : i * sz + fo < (flatV enc xs).length := by
      rw [length_flatV he]
      have : (i + 1) * sz ≤ xs.length * sz := Nat.mul_le_mul_right _ hi
      rw [Nat.succ_mul] at this; omega
    have := hO.cell hH (i * sz + fo) (flatV enc xs)[i * sz + fo] (by simp [hlt])
    show w.cell? ⟨g, off + (i * sz + fo), none⟩ = _
    rw [this, ← flatV_get he d xs i fo hi hf]; simp [hlt]

theorem Rep.vecV {h : List Ent} {l cap sz n : Nat} {ao : Option Addr} {cs : List SV} {T : TypeId} (hr : Rep W F h w) (hl : nth h l = some ⟨.sl ao cap, .vecV T sz n cs⟩) :
    n ≤ cap ∧ (0 < cap → ao = some ⟨Addr.blkD ao, Addr.offD ao, none⟩) ∧ ∀ j v, (denL cs)[j]? = some v → w.cell? ⟨Addr.blkD ao, Addr.offD ao + j, none⟩ = some v := by
  obtain ⟨c, L, hc, hH, _⟩ := hr.get hl
  have hO : Own T sz ao n cap (denL cs) c := hc
  refine ⟨hO.2.1, ?_, ?_⟩
  · intro hn
    obtain ⟨_, _, ⟨_, h0, _⟩ | ⟨g, off, cur, rfl, _⟩⟩ := hO
    · omega
    · rfl
  · intro j v hv
    rcases hO.2.2 with ⟨rfl, h0, _⟩ | ⟨g, off, cur, rfl, _⟩
    · have h1 := hO.1
      have h2 := hO.2.1
      have : n = 0 := by omega
      subst this
      have : (denL cs).length = 0 := by rw [h1]; omega
      have := List.eq_nil_of_length_eq_zero this
      rw [this] at hv; simp at hv
    · exact hO.cell hH j v hv

theorem Rep.ro {h : List Ent} {l cap sz : Nat} {ao : Option Addr} {α : Type} {enc : α → List SV} {xs : List α} {d : α} (hr : Rep W F h w) (hl : nth h l = some ⟨.sl ao cap, .roL sz enc xs d⟩) :
    (∀ x, (enc x).length = sz) ∧ xs.length ≤ cap ∧ (0 < xs.length → ao = some ⟨Addr.blkD ao, Addr.offD ao, none⟩) ∧
    ∀ i fo, i < xs.length → fo < sz → w.cell? ⟨Addr.blkD ao, Addr.offD ao + (i * sz + fo), none⟩ = (denL (enc (xs.getD i d)))[fo]? := by
  obtain ⟨c, L, hc, hH, _⟩ := hr.get hl
  obtain ⟨_, he, hcap, h3⟩ := hc
  refine ⟨he, hcap, ?_, ?_⟩
  · intro hn
    rcases h3 with rfl | ⟨g, off, cur, T, fr, rfl, _⟩
    · simp at hn
    · rfl
  · intro i fo hi hf
    rcases h3 with rfl | ⟨g, off, cur, T, fr, rfl, hg, ht⟩
    · simp at hi
    · show w.cell? ⟨g, off + (i * sz + fo), none⟩ = _
      have hg2 : w.heap[g]? = some (.cells cur T fr) := by rw [hH.old g (Array.getElem?_eq_some_iff.1 hg).1]; exact hg
      have hcell : ∀ k, w.cell? ⟨g, k, none⟩ = cur[k]? := fun k => by simp [World.cell?, hg2]
      rw [hcell, ← flatV_get he d xs i fo hi hf, ← ht, List.getElem?_take]
      have hlt : i * sz + fo < xs.length * sz := by
        have : (i + 1) * sz ≤ xs.length * sz := Nat.mul_le_mul_right _ hi
        rw [Nat.succ_mul] at this; omega
      rw [if_pos hlt, List.getElem?_drop]
      simp

theorem yields_xload {T : SV → Prop} {Goal : Prop} (S : Prop) (t : TypeId) (x : Operand) (ho : o.op = .load t x) (hr : Rep W F st.heap w) (fin : ∀ v, (execOp (actOf st).eval o).run P w = .ok (.value (den v)) w → T v → Goal) (hx : (xload P st t (st.eval x)).holds T S) (hS : S → Goal) : Goal := by
  have h1 := den_eval st x
  unfold xload at hx
  have run : ∀ a v, (actOf st).eval x = .pointer (some a) → (loadVar t a).run P w = .ok v w → (execOp (actOf st).eval o).run P w = .ok (.value v) w := fun a v e1 e2 => by
    simp [execOp, ho, e1, Instr.loadAt, Instr.sureAddr, e2]
  split at hx
  · rename_i l b off e1
    rw [e1] at h1
    split at hx
    · rename_i b' cs T e2
      have hc := hr.cells e2
      split at hx
      · rename_i k e3
        split at hx
        · rename_i v e4
          obtain ⟨rfl, hx⟩ := hx
          refine fin v (run _ _ h1.symm (run_loadVar_one e3 ?_)) hx
          rw [hc, denL_eq]; rw [nth_eq] at e4; simp [e4]
        · exact hS hx
      · rename_i k e3
        obtain ⟨⟨rfl, hk⟩, hx⟩ := hx
        refine fin _ (run _ _ h1.symm (run_loadVar_agg e3 (denL (takeN (dropN cs off) k)) (by rw [length_denL, ← lenN_eq]; exact hk) ?_)) hx
        intro j v hv
        rw [Addr.add_mid', hc]
        exact takeN_dropN_get cs off k j v hv
      · exact hS hx
    · exact hS hx
  · rename_i l b base sz i fo e1
    rw [e1] at h1
    split at hx
    · rename_i ao cap α T sz' enc xs d e2
      obtain ⟨he, hcap, hao, hc⟩ := hr.vec e2
      split at hx
      · rename_i k e3
        split at hx
        · rename_i v e4
          obtain ⟨⟨rfl, rfl, rfl, hi⟩, hx⟩ := hx
          refine fin v (run _ _ h1.symm (run_loadVar_one e3 ?_)) hx
          rw [nth_eq] at e4
          have hf : fo < sz := by rw [← he (xs.getD i d)]; exact (List.getElem?_eq_some_iff.1 e4).1
          rw [hc i fo hi hf, denL_eq, List.getElem?_map, e4]; rfl
        · exact hS hx
      · rename_i k e3
        obtain ⟨⟨rfl, rfl, rfl, hi, hk⟩, hx⟩ := hx
        refine fin _ (run _ _ h1.symm (run_loadVar_agg e3 (denL (takeN (dropN (enc (xs.getD i d)) fo) k)) (by rw [length_denL, ← lenN_eq]; exact hk) ?_)) hx
        intro j v hv
        have hv' := takeN_dropN_get _ fo k j v hv
        have hlt := (List.getElem?_eq_some_iff.1 hv').1
        rw [length_denL, he] at hlt
        rw [Addr.add_mid', Nat.add_assoc, Nat.add_assoc, hc i (fo + j) hi hlt]
        exact hv'
      · exact hS hx
    · rename_i ao cap T sz' n cs e2
      obtain ⟨hcap, hao, hc⟩ := hr.vecV e2
      split at hx
      · rename_i k e3
        split at hx
        · rename_i v e4
          obtain ⟨⟨rfl, rfl, rfl⟩, hx⟩ := hx
          refine fin v (run _ _ h1.symm (run_loadVar_one e3 ?_)) hx
          rw [nth_eq] at e4
          exact hc _ _ (by rw [denL_eq, List.getElem?_map, e4]; rfl)
        · exact hS hx
      · rename_i k e3
        obtain ⟨⟨rfl, rfl, rfl, hk⟩, hx⟩ := hx
        refine fin _ (run _ _ h1.symm (run_loadVar_agg e3 (denL (takeN (dropN cs (i * sz + fo)) k)) (by rw [length_denL, ← lenN_eq]; exact hk) ?_)) hx
        intro j v hv
        have hv' := takeN_dropN_get cs (i * sz + fo) k j v hv
        rw [Addr.add_mid', Nat.add_assoc]
        exact hc _ _ hv'
      · exact hS hx
    · rename_i ao cap α sz' enc xs d e2
      obtain ⟨he, hcap, hao, hc⟩ := hr.ro e2
      split at hx
      · rename_i k e3
        split at hx
        · rename_i v e4
          obtain ⟨⟨rfl, rfl, rfl, hi⟩, hx⟩ := hx
          refine fin v (run _ _ h1.symm (run_loadVar_one e3 ?_)) hx
          rw [nth_eq] at e4
          have hf : fo < sz := by rw [← he (xs.getD i d)]; exact (List.getElem?_eq_some_iff.1 e4).1
          rw [hc i fo hi hf, denL_eq, List.getElem?_map, e4]; rfl
        · exact hS hx
      · rename_i k e3
        obtain ⟨⟨rfl, rfl, rfl, hi, hk⟩, hx⟩ := hx
        refine fin _ (run _ _ h1.symm (run_loadVar_agg e3 (denL (takeN (dropN (enc (xs.getD i d)) fo) k)) (by rw [length_denL, ← lenN_eq]; exact hk) ?_)) hx
        intro j v hv
        have hv' := takeN_dropN_get _ fo k j v hv
        have hlt := (List.getElem?_eq_some_iff.1 hv').1
        rw [length_denL, he] at hlt
        rw [Addr.add_mid', Nat.add_assoc, Nat.add_assoc, hc i (fo + j) hi hlt]
        exact hv'
      · exact hS hx
    · exact hS hx
  · exact hS hx


theorem yields_xindexAddr {T : SV → Prop} {Goal : Prop} (S : Prop) (t : TypeId) (x i : Operand) (ho : o.op = .indexAddr t x i) (hr : Rep W F st.heap w) (fin : ∀ v, (execOp (actOf st).eval o).run P w = .ok (.value (den v)) w → T v → Goal) (hx : (xindexAddr P st t (st.eval x) (st.eval i)).holds T S) (hS : S → Goal) : Goal := by
  have h1 := den_eval st x
  have h2 := den_eval st i
  have sl : ∀ {e sz}, tslice P t = some (e, sz) → P.underlying t = some (.slice e) ∧ ∃ i, P.info? e = some i ∧ i.size = sz := by
    intro e sz h
    unfold tslice at h
    split at h
    · rename_i e' hu
      obtain ⟨i, hi, he⟩ := Option.map_eq_some_iff.1 h
      cases he; exact ⟨hu, i, hi, rfl⟩
    · cases h
  unfold xindexAddr at hx
  split at hx
  · rename_i l ao n cap k j e1 e2
    rw [e1] at h1; rw [e2] at h2
    split at hx
    · rename_i ao' cap' α T sz' enc xs d el sz e3 e4
      obtain ⟨⟨rfl, rfl, rfl, g1, g2⟩, hx⟩ := hx
      obtain ⟨hu, inf, hi, rfl⟩ := sl e4
      obtain ⟨_, hcap, hao, _⟩ := hr.vec e3
      have hao' := hao (by omega)
      refine fin _ ?_ hx
      have hadd := Addr.add_mid' (Addr.blkD ao') (Addr.offD ao') (j.toNat * inf.size)
      have h1' : (actOf st).eval x = .slice (some ⟨Addr.blkD ao', Addr.offD ao', none⟩) xs.length cap' := by rw [← h1, ← hao']; rfl
      simp [execOp, ho, h1', ← h2, den, Instr.indexAt, asIntOf, underlying, hu, g1, g2, sizeOf, typeInfo, hi, hadd]
    · rename_i ao' cap' T sz' n' cs el sz e3 e4
      obtain ⟨⟨rfl, rfl, rfl, g1, g2⟩, hx⟩ := hx
      obtain ⟨hu, inf, hi, rfl⟩ := sl e4
      obtain ⟨hcap, hao, _⟩ := hr.vecV e3
      have hao' := hao (by omega)
      refine fin _ ?_ hx
      have hadd := Addr.add_mid' (Addr.blkD ao') (Addr.offD ao') (j.toNat * inf.size)
      have h1' : (actOf st).eval x = .slice (some ⟨Addr.blkD ao', Addr.offD ao', none⟩) n cap' := by rw [← h1, ← hao']; rfl
      simp [execOp, ho, h1', ← h2, den, Instr.indexAt, asIntOf, underlying, hu, g1, g2, sizeOf, typeInfo, hi, hadd]
    · rename_i ao' cap' α sz' enc xs d el sz e3 e4
      obtain ⟨⟨rfl, rfl, rfl, g1, g2⟩, hx⟩ := hx
      obtain ⟨hu, inf, hi, rfl⟩ := sl e4
      obtain ⟨_, hcap, hao, _⟩ := hr.ro e3
      have hao' := hao (by omega)
      refine fin _ ?_ hx
      have hadd := Addr.add_mid' (Addr.blkD ao') (Addr.offD ao') (j.toNat * inf.size)
      have h1' : (actOf st).eval x = .slice (some ⟨Addr.blkD ao', Addr.offD ao', none⟩) xs.length cap' := by rw [← h1, ← hao']; rfl
      simp [execOp, ho, h1', ← h2, den, Instr.indexAt, asIntOf, underlying, hu, g1, g2, sizeOf, typeInfo, hi, hadd]
    · exact hS hx
  · rename_i l ao cap sz0 lo hi' k j e1 e2
    rw [e1] at h1; rw [e2] at h2
    split at hx
    · rename_i ao' cap' α T sz' enc xs d el sz e3 e4
      obtain ⟨⟨rfl, rfl, rfl, hhi, g1, g2⟩, hx⟩ := hx
      obtain ⟨hu, inf, hi, rfl⟩ := sl e4
      obtain ⟨_, hcap, hao, _⟩ := hr.vec e3
      have hao' := hao (by omega)
      refine fin _ ?_ hx
      have hne : ¬ cap' = lo := by omega
      have hadd := Addr.add_mid' (Addr.blkD ao') (Addr.offD ao' + lo * inf.size) (j.toNat * inf.size)
      have h1' : (actOf st).eval x = .slice (some ⟨Addr.blkD ao', Addr.offD ao' + lo * inf.size, none⟩) (hi' - lo) (cap' - lo) := by
        rw [← h1]
        simp only [den, if_neg hne]
        congr 1
        rw [hao']
        simp only [Option.map_some]
        rw [show Addr.blkD (some ⟨Addr.blkD ao', Addr.offD ao', none⟩) = Addr.blkD ao' from rfl, show Addr.offD (some ⟨Addr.blkD ao', Addr.offD ao', none⟩) = Addr.offD ao' from rfl] 
        rw [Addr.add_mid']
      have g2' : j < ((hi' - lo : Nat) : Int) := g2
      simp [execOp, ho, h1', ← h2, den, Instr.indexAt, asIntOf, underlying, hu, g1, g2', sizeOf, typeInfo, hi, hadd, Nat.add_mul, Nat.add_assoc]
    · exact hS hx
  · rename_i l b off k j e1 e2
    rw [e1] at h1; rw [e2] at h2
    split at hx
    · rename_i n e hu
      split at hx
      · rename_i inf hi
        have hadd := Addr.add_mid' b off (j.toNat * inf.size)
        split at hx
        · obtain ⟨⟨_, rfl, _, g1, g2⟩, hx⟩ := hx
          refine fin _ ?_ hx
          simp [execOp, ho, ← h1, ← h2, den, Instr.indexAt, asIntOf, underlying, hu, g1, g2, sizeOf, typeInfo, hi, hadd, Instr.sureAddr]
        obtain ⟨⟨g1, g2⟩, hx⟩ := hx
        refine fin _ ?_ hx
        simp [execOp, ho, ← h1, ← h2, den, Instr.indexAt, asIntOf, underlying, hu, g1, g2, sizeOf, typeInfo, hi, hadd, Instr.sureAddr]
      · exact hS hx
    · exact hS hx
  · exact hS hx


theorem putCells_eq : ∀ (vs : List Value) (i : Nat) (cs : List Value), (putCells vs i cs.toArray).toList = writeN cs i vs
  | [], i, cs => by cases cs <;> cases i <;> rfl
  | v :: vs, i, cs => by
    have ih := putCells_eq vs (i + 1) (cs.set i v)
    rw [putCells]
    simp only [List.setIfInBounds_toArray]
    rw [ih]
    clear ih
    induction cs generalizing i with
    | nil => cases i <;> simp [writeN] <;> cases vs <;> rfl
    | cons c cs ihc =>
      cases i with
      | zero => 
        simp only [List.set_cons_zero, writeN]
        cases vs with
        | nil => cases cs <;> rfl
        | cons u vs => rfl
      | succ i =>
        simp only [List.set_cons_succ, writeN]
        rw [← ihc i]
        cases vs with
        | nil => cases hcs : cs.set i v <;> simp [writeN]
        | cons u vs => rfl

theorem denL_writeN (cs : List SV) (i : Nat) (vs : List SV) : denL (writeN cs i vs) = writeN (denL cs) i (denL vs) := by
  induction cs generalizing i vs with
  | nil => cases vs <;> cases i <;> rfl
  | cons c cs ih =>
    cases vs with
    | nil => cases i <;> rfl
    | cons v vs =>
      cases i with
      | zero => simp only [writeN, denL]; rw [ih]
      | succ i => simp only [writeN, denL]; rw [ih]; rfl

theorem cells_of_allOne (v : SV) (h : allOne (cellsOf v) = true) : (den v).cells = (denL (cellsOf v)).toArray := by
  rcases den_cellsOf v with h' | ⟨c, rfl⟩
  · exact h'
  · simp [cellsOf, allOne, oneSV] at h

theorem size_writeN {α : Type u} (cs : List α) (i : Nat) (vs : List α) : (writeN cs i vs).length = cs.length := by
  induction cs generalizing i vs with
  | nil => cases vs <;> cases i <;> rfl
  | cons c cs ih =>
    cases vs with
    | nil => cases i <;> rfl
    | cons v vs => cases i <;> simp [writeN, ih]

theorem writeN_append {α : Type u} (a b : List α) (i : Nat) (vs : List α) (h : i + vs.length ≤ a.length) : writeN (a ++ b) i vs = writeN a i vs ++ b := by
  induction a generalizing i vs with
  | nil =>
    have : vs = [] := by cases vs with | nil => rfl | cons v vs => simp at h
    subst this
    cases b <;> cases i <;> rfl
  | cons c a ih =>
    cases vs with
    | nil => cases i <;> rfl
    | cons v vs =>
      cases i with
      | zero => simp only [writeN, List.cons_append]; rw [ih 0 vs (by simp at h; omega)]
      | succ i => simp only [writeN, List.cons_append]; rw [ih i (v :: vs) (by simp at h ⊢; omega)]

theorem writeN_shift {α : Type u} (a b : List α) (i : Nat) (vs : List α) : writeN (a ++ b) (a.length + i) vs = a ++ writeN b i vs := by
  induction a with
  | nil => simp
  | cons c a ih =>
    cases vs with
    | nil =>
      have e1 : ∀ (l : List α) (n : Nat), writeN l n [] = l := fun l n => by cases l <;> cases n <;> rfl
      rw [e1, e1]
    | cons v vs =>
      simp only [List.cons_append, List.length_cons]
      rw [show a.length + 1 + i = (a.length + i) + 1 from by omega, writeN, ih]
      intro h; cases h

theorem flatV_set {α : Type} {enc : α → List SV} {sz : Nat} (h : ∀ x, (enc x).length = sz) (d : α) : ∀ (xs : List α) (i fo : Nat) (vs : List SV) (e : α), i < xs.length → fo + vs.length ≤ sz → denL (enc e) = denL (writeN (enc (xs.getD i d)) fo vs) →
    flatV enc (xs.set i e) = writeN (flatV enc xs) (i * sz + fo) (denL vs)
  | [], i, _, _, _, hi, _, _ => by simp at hi
  | x :: xs, 0, fo, vs, e, _, hf, he => by
    simp only [List.getD_cons_zero] at he
    simp only [List.set_cons_zero, flatV, List.flatMap_cons, Nat.zero_mul, Nat.zero_add, he, denL_writeN]
    rw [writeN_append _ _ _ _ (by rw [length_denL, length_denL, h]; exact hf)]
  | x :: xs, i + 1, fo, vs, e, hi, hf, he => by
    have ih := flatV_set h d xs i fo vs e (by simpa using hi) hf (by simpa using he)
    simp only [List.set_cons_succ, flatV, List.flatMap_cons] at ih ⊢
    rw [ih, Nat.succ_mul]
    have hl : (denL (enc x)).length = sz := by rw [length_denL, h]
    rw [show i * sz + sz + fo = (denL (enc x)).length + (i * sz + fo) from by omega, writeN_shift]

theorem sound_xstore (S : Prop) (t : TypeId) (x y : Operand) (ho : o.op = .store t x y) (hd : o.dst = none) (hN : ∀ st', N st' → ∀ w', Rep W F st'.heap w' → K (actOf st') w') (hr : Rep W F st.heap w)
    (hx : xstore P st t (st.eval x) (st.eval y) N S) (hS : S → o.wp P (actOf st) w K Q) : o.wp P (actOf st) w K Q := by
  have h1 := den_eval st x
  have h2 := den_eval st y
  have run : ∀ a w' k b, (actOf st).eval x = .pointer (some a) → tlay P t = some (b, k) → lenN (cellsOf (st.eval y)) = k → allOne (cellsOf (st.eval y)) = true → (storeCells a (denL (cellsOf (st.eval y)))).run P w = .ok () w' →
      (∀ st' : Sy, st'.tmps = st.tmps → N st' → Rep W F st'.heap w' → o.wp P (actOf st) w K Q) := by
    intro a w' k b e1 e2 e3 e4 e5 st' e6 hn hr'
    have hc := cells_of_allOne _ e4
    rw [h2] at hc
    have hsz := tlay_size e2 w
    unfold Oper.wp
    have : (execOp (actOf st).eval o).run P w = .ok .skip w' := by
      rw [lenN_eq] at e3
      simp [execOp, ho, e1, Instr.storeAt, Instr.sureAddr, storeVar, hc, hsz, length_denL, e3, e5]
    rw [this]
    show K ((actOf st).put o.dst undef) w'
    rw [hd]
    have : (actOf st).put none undef = actOf st' := by simp [Act.put, actOf, e6]
    rw [this]
    exact hN _ hn _ hr'
  unfold xstore at hx
  split at hx
  · rename_i l b off e1
    rw [e1] at h1
    split at hx
    · rename_i b' cs T e2
      split at hx
      · rename_i bb k e3
        obtain ⟨⟨rfl, g1, g2, g3⟩, hx⟩ := hx
        obtain ⟨c, L, hc, hH, hput⟩ := hr.get e2
        have hc' : c = [(b', .cells (denL cs).toArray T (0, 0))] := hc
        subst hc'
        have hlen : off + 0 + (denL (cellsOf (st.eval y))).length ≤ (denL cs).toArray.size := by
          simp only [List.size_toArray, length_denL, Nat.add_zero]
          rw [lenN_eq] at g2 g3; omega
        obtain ⟨w', hst, hH'⟩ := run_storeCells_H (P := P) b' off T (denL (cellsOf (st.eval y))) 0 (denL cs).toArray w L hH hlen (oneCells_of_allOne _ g1)
        refine run _ w' k bb h1.symm e3 g2 g1 hst _ ?_ hx (hput _ _ w' ?_ hH')
        · rfl
        · show _ = _
          simp only [Nat.add_zero]
          congr 4
          rw [denL_writeN, ← putCells_eq]
      · exact hS hx
    · exact hS hx
  · rename_i l b base sz i fo e1
    rw [e1] at h1
    split at hx
    · rename_i ao cap α T sz' enc xs d e2
      split at hx
      · rename_i bb k e3
        obtain ⟨⟨rfl, rfl, rfl, hi, g1, g2, g3⟩, e, he, hx⟩ := hx
        obtain ⟨c, L, ⟨hO, hel⟩, hH, hput⟩ := hr.get e2
        obtain ⟨hOl, hOc, ⟨_, h0, _⟩ | ⟨g, off, cur, rfl, rfl, hs, ht⟩⟩ := hO
        · omega
        · have hfl := length_flatV hel xs
          have hlt : i * sz + sz ≤ xs.length * sz := by
            have : (i + 1) * sz ≤ xs.length * sz := Nat.mul_le_mul_right _ hi
            rw [Nat.succ_mul] at this; exact this
          have hcap : xs.length * sz ≤ cap * sz := Nat.mul_le_mul_right _ hOc
          rw [lenN_eq] at g2
          have hlen : (off + (i * sz + fo)) + 0 + (denL (cellsOf (st.eval y))).length ≤ cur.size := by
            rw [length_denL]; omega
          obtain ⟨w', hst, hH'⟩ := run_storeCells_H (P := P) g (off + (i * sz + fo)) T (denL (cellsOf (st.eval y))) 0 cur w L hH hlen (oneCells_of_allOne _ g1)
          refine run _ w' k bb h1.symm e3 (by rw [lenN_eq]; exact g2) g1 hst _ ?_ hx (hput _ _ w' ⟨⟨?_, ?_, .inr ⟨g, off, _, rfl, rfl, ?_, ?_⟩⟩, hel⟩ hH')
          · rfl
          · rw [length_flatV hel]
          · simpa using hOc
          · rw [size_putCells]; exact hs
          · simp only [Nat.add_zero, List.length_set]
            have hsplit : cur.toList = cur.toList.take off ++ flatV enc xs ++ (cur.toList.drop off).drop (xs.length * sz) := by
              rw [← ht, List.append_assoc, List.take_append_drop, List.take_append_drop]
            have hoff : (cur.toList.take off).length = off := by simp; omega
            have hp := putCells_eq (denL (cellsOf (st.eval y))) (off + (i * sz + fo)) cur.toList
            have hp' : (putCells (denL (cellsOf (st.eval y))) (off + (i * sz + fo)) cur).toList = writeN cur.toList (off + (i * sz + fo)) (denL (cellsOf (st.eval y))) := by
              rw [← hp]
            rw [hp', hsplit]
            have e4 : writeN (cur.toList.take off ++ flatV enc xs ++ (cur.toList.drop off).drop (xs.length * sz)) (off + (i * sz + fo)) (denL (cellsOf (st.eval y))) =
                cur.toList.take off ++ (flatV enc (xs.set i e) ++ (cur.toList.drop off).drop (xs.length * sz)) := by
              rw [List.append_assoc]
              conv => lhs; rw [show off + (i * sz + fo) = (cur.toList.take off).length + (i * sz + fo) from by rw [hoff]]
              rw [writeN_shift, writeN_append _ _ _ _ (by rw [length_denL, hfl]; omega)]
              rw [← flatV_set hel d xs i fo (cellsOf (st.eval y)) e hi (by omega) he]
            rw [e4, List.drop_append_of_le_length (by rw [hoff]; exact Nat.le_refl _), List.drop_of_length_le (by rw [hoff]; exact Nat.le_refl _), List.nil_append]
            have e5 : xs.length * sz = (flatV enc (xs.set i e)).length := by rw [length_flatV hel]; simp
            rw [e5, List.take_left]
      · exact hS hx
    · exact hS hx
  · exact hS hx


theorem sound_new (hr : Rep W F st.heap w) (cs : List SV) (T : TypeId) (dst : Option Tmp) (hN : ∀ st', N st' → ∀ w', Rep W F st'.heap w' → K (actOf st') w') (hx : newCells st dst cs T N) :
    K ((actOf st).put dst (.pointer (some ⟨w.heap.size, 0, none⟩))) (w.alloc (.cells (denL cs).toArray T (0, 0))) := by
  have hn := hx w.heap.size
  have h1 := hN _ hn (w.alloc (.cells (denL cs).toArray T (0, 0))) (by
    rw [heap_put]
    exact hr.new (e := ⟨.blk w.heap.size, .cells cs T⟩) (c := [(w.heap.size, .cells (denL cs).toArray T (0, 0))]) rfl (fun L hL => hL.alloc _))
  rw [actOf_put] at h1
  exact h1

theorem sound_alloc (T : TypeId) (ho : o.op = .alloc T) (cs : List SV) (hz : tzero P T = some cs) (hN : ∀ st', N st' → ∀ w', Rep W F st'.heap w' → K (actOf st') w') (hr : Rep W F st.heap w)
    (hx : newCells st o.dst cs T N) : o.wp P (actOf st) w K Q := by
  have h1 := sound_new hr cs T o.dst hN hx
  obtain ⟨z, hz1, rfl⟩ := Option.map_eq_some_iff.1 hz
  obtain ⟨i, hi, hz2⟩ := Option.bind_eq_some_iff.1 hz1
  have hd : (denL (z.cells.toList.map ofValue)).toArray = z.cells := by
    apply Array.ext'
    simp only [denL_eq, List.map_map]
    rw [show den ∘ ofValue = id from funext den_ofValue, List.map_id]
  rw [hd] at h1
  unfold Oper.wp
  simp [execOp, ho, Instr.alloc, zeroValue, typeInfo, hi, hz2, newVar, newRow]
  exact h1

theorem sound_box (T : TypeId) (x : Operand) (ho : o.op = .box T x) (h1 : allOne (cellsOf (st.eval x)) = true) (hN : ∀ st', N st' → ∀ w', Rep W F st'.heap w' → K (actOf st') w') (hr : Rep W F st.heap w)
    (hx : newCells st o.dst (cellsOf (st.eval x)) T N) : o.wp P (actOf st) w K Q := by
  have h2 := sound_new hr (cellsOf (st.eval x)) T o.dst hN hx
  rw [← cells_of_allOne _ h1, den_eval] at h2
  unfold Oper.wp
  simp [execOp, ho, Instr.box, newVar, newRow]
  exact h2

def evenPlaces (k : Nat) : Nat → Nat → List (Nat × Nat)
  | 0, _ => []
  | n + 1, i => (i * k, k) :: evenPlaces k n (i + 1)

def tplaces (P : Program) (t : TypeId) : Option (List (Nat × Nat)) :=
  match P.underlying t with
  | some (.struct fs) => fs.toList.mapM fun f => (P.info? f.type).map fun i => (f.offset, i.size)
  | some (.array n e) => (P.info? e).map fun i => evenPlaces i.size n 0
  | _ => none

def evalParts (st : Sy) : List (Nat × Operand) → List (Nat × SV)
  | [] => []
  | (i, x) :: l => (i, st.eval x) :: evalParts st l

theorem foldl_put (off : Nat) : ∀ (l : List Value) (k : Nat) (cs : Array Value), (l.zipIdx k).foldl (fun cs (x : Value × Nat) => cs.setIfInBounds (off + x.2) x.1) cs = putCells l (off + k) cs
  | [], _, _ => rfl
  | v :: l, k, cs => by
    simp only [List.zipIdx_cons, List.foldl_cons, putCells]
    rw [foldl_put off l (k + 1)]; rfl

theorem fill_of_fillV (place : Nat → Option (Nat × Nat)) (pl : List (Nat × Nat)) (hp : ∀ i, nth pl i = place i) : ∀ (parts : List (Nat × SV)) (cs r : List SV), (∀ p ∈ parts, allOne (cellsOf p.2) = true) →
    (∀ p ∈ parts, ∀ x, nth pl p.1 = some x → x.1 + x.2 ≤ cs.length) → fillV pl cs parts = some r →
    Instr.fill place (denL cs).toArray (parts.map fun p => (p.1, den p.2)) = some (denL r).toArray
  | [], cs, r, _, _, h => by simp only [fillV, Option.some.injEq] at h; subst h; rfl
  | (i, v) :: rest, cs, r, h1, hb, h => by
    simp only [fillV] at h
    split at h
    · rename_i off k hi
      split at h
      · rename_i hk
        have hv := h1 (i, v) List.mem_cons_self
        have hc := cells_of_allOne v hv
        rw [lenN_eq] at hk
        have hb' := hb (i, v) List.mem_cons_self _ hi
        have ih := fill_of_fillV place pl hp rest _ r (fun p hp => h1 p (List.mem_cons_of_mem _ hp)) (fun p hpm x hx => by rw [size_writeN]; exact hb p (List.mem_cons_of_mem _ hpm) x hx) h
        simp only [List.map_cons, Instr.fill, ← hp, hi, hc, List.size_toArray, length_denL]
        rw [if_neg (by simp [hk]; exact hb')]
        rw [← ih]
        congr 1
        have hf := foldl_put off (denL (cellsOf v)) 0 (denL cs).toArray
        simp only [Nat.add_zero] at hf
        have e : (denL (cellsOf v)).toArray.zipIdx.foldl (fun cs (x : Value × Nat) => cs.setIfInBounds (off + x.2) x.1) (denL cs).toArray = putCells (denL (cellsOf v)) off (denL cs).toArray := by
          rw [← hf, ← Array.foldl_toList]; simp
        rw [show (denL (writeN cs off (cellsOf v))).toArray = putCells (denL (cellsOf v)) off (denL cs).toArray from by
          apply Array.ext'; rw [putCells_eq, ← denL_writeN]]
        rw [← e]
      · cases h
    · cases h

def allParts : List (Nat × SV) → Bool
  | [] => true
  | p :: l => allOne (cellsOf p.2) && allParts l
def fitPlaces (n : Nat) : List (Nat × Nat) → Bool
  | [] => true
  | x :: l => decide (x.1 + x.2 ≤ n) && fitPlaces n l

theorem allParts_mem : ∀ (l : List (Nat × SV)), allParts l = true → ∀ p ∈ l, allOne (cellsOf p.2) = true
  | [], _, p, hp => by cases hp
  | q :: l, h, p, hp => by
    simp only [allParts, Bool.and_eq_true] at h
    rcases List.mem_cons.1 hp with rfl | hp
    · exact h.1
    · exact allParts_mem l h.2 p hp
theorem fitPlaces_nth (n : Nat) : ∀ (l : List (Nat × Nat)), fitPlaces n l = true → ∀ i x, nth l i = some x → x.1 + x.2 ≤ n
  | [], _, i, x, h => by simp [nth] at h
  | q :: l, h, 0, x, hx => by
    simp only [fitPlaces, Bool.and_eq_true, decide_eq_true_eq] at h
    simp only [nth, Option.some.injEq] at hx; subst hx; exact h.1
  | q :: l, h, i + 1, x, hx => by
    simp only [fitPlaces, Bool.and_eq_true] at h
    exact fitPlaces_nth n l h.2 i x hx

theorem evalParts_eq (st : Sy) : ∀ l : List (Nat × Operand), (evalParts st l).map (fun p => (p.1, den p.2)) = l.map fun p => (p.1, (actOf st).eval p.2)
  | [] => rfl
  | (i, x) :: l => by simp only [evalParts, List.map_cons, den_eval, evalParts_eq st l]

theorem nth_evenPlaces (k : Nat) : ∀ (n i j : Nat), j < n → nth (evenPlaces k n i) j = some ((i + j) * k, k)
  | 0, _, _, h => by omega
  | n + 1, i, 0, _ => rfl
  | n + 1, i, j + 1, h => by
    rw [evenPlaces, nth, nth_evenPlaces k n (i + 1) j (by omega)]
    congr 3; omega

theorem fillV_nth (pl : List (Nat × Nat)) : ∀ (parts : List (Nat × SV)) (cs r : List SV), fillV pl cs parts = some r → ∀ p ∈ parts, ∃ x, nth pl p.1 = some x
  | [], _, _, _, p, hp => by cases hp
  | (i, v) :: rest, cs, r, h, p, hp => by
    simp only [fillV] at h
    split at h
    · rename_i off k hi
      split at h
      · rcases List.mem_cons.1 hp with rfl | hp
        · exact ⟨_, hi⟩
        · exact fillV_nth pl rest _ r h p hp
      · cases h
    · cases h

theorem fill_place_congr (p q : Nat → Option (Nat × Nat)) : ∀ (parts : List (Nat × Value)) (cs : Array Value), (∀ x ∈ parts, p x.1 = q x.1) → Instr.fill p cs parts = Instr.fill q cs parts
  | [], cs, _ => rfl
  | (i, v) :: rest, cs, h => by
    simp only [Instr.fill]
    rw [h (i, v) List.mem_cons_self]
    cases q i with
    | none => rfl
    | some x =>
      obtain ⟨off, size⟩ := x
      simp only
      split
      · rfl
      · exact fill_place_congr p q rest _ (fun x hx => h x (List.mem_cons_of_mem _ hx))

theorem nth_evenPlaces_some (k n : Nat) : ∀ (i j : Nat) (x : Nat × Nat), nth (evenPlaces k n i) j = some x → j < n := by
  induction n with
  | zero => intro i j x h; simp [evenPlaces, nth] at h
  | succ n ih =>
    intro i j x h
    cases j with
    | zero => omega
    | succ j =>
      rw [evenPlaces, nth] at h
      have := ih _ _ _ h; omega

def xbuild (P : Program) (st : Sy) (t : TypeId) (parts : List (Nat × Operand)) : Res :=
  match tplaces P t, tzero P t with
  | some pl, some cs => match fillV pl cs (evalParts st parts) with
    | some r => .req (allParts (evalParts st parts) = true ∧ fitPlaces (lenN cs) pl = true) (.agg r)
    | none => .no
  | _, _ => .no

theorem mapM_option_nth {α β : Type} (f : α → Option β) : ∀ (l : List α) (r : List β), l.mapM f = some r → ∀ i, nth r i = (l[i]?).bind f
  | [], r, h, i => by simp at h; subst h; simp [nth]
  | x :: l, r, h, i => by
    rw [List.mapM_cons] at h
    cases hx : f x with
    | none => rw [hx] at h; simp at h
    | some y =>
      rw [hx] at h
      cases hl : l.mapM f with
      | none => rw [hl] at h; simp at h
      | some ys =>
        rw [hl] at h
        simp at h
        subst h
        cases i with
        | zero => simp [nth, hx]
        | succ i => simpa [nth] using mapM_option_nth f l ys hl i

theorem yields_xbuild {T : SV → Prop} {Goal : Prop} (S : Prop) (t : TypeId) (parts : Array (Nat × Operand)) (ho : o.op = .build t parts) (fin : ∀ v, (execOp (actOf st).eval o).run P w = .ok (.value (den v)) w → T v → Goal)
    (hx : (xbuild P st t parts.toList).holds T S) (hS : S → Goal) : Goal := by
  unfold xbuild at hx
  split at hx
  · rename_i pl cs e1 e2
    split at hx
    · rename_i r e3
      obtain ⟨⟨g1, g2⟩, hx⟩ := hx
      refine fin _ ?_ hx
      unfold tplaces at e1
      split at e1
      · rename_i fs hfs
        obtain ⟨z, hz1, rfl⟩ := Option.map_eq_some_iff.1 e2
        obtain ⟨i, hi, hz2⟩ := Option.bind_eq_some_iff.1 hz1
        have hd : (denL (z.cells.toList.map ofValue)).toArray = z.cells := by
          apply Array.ext'
          simp only [denL_eq, List.map_map]
          rw [show den ∘ ofValue = id from funext den_ofValue, List.map_id]
        have hmap : ∀ w : World, (fs.mapM fun f => do pure (f.offset, ← sizeOf f.type) : Sem (Array (Nat × Nat))).run P w = .ok pl.toArray w := by
          intro w
          rw [Array.mapM_eq_mapM_toList]
          have key : ∀ (l : List Field) (r : List (Nat × Nat)), (l.mapM fun f => (P.info? f.type).map fun i => (f.offset, i.size)) = some r →
              (l.mapM fun f => do pure (f.offset, ← sizeOf f.type) : Sem (List (Nat × Nat))).run P w = .ok r w := by
            intro l
            induction l with
            | nil => intro r h; simp at h; subst h; simp
            | cons f l ih =>
              intro r h
              rw [List.mapM_cons] at h
              cases hf : P.info? f.type with
              | none => simp [hf] at h
              | some i =>
                cases hl : l.mapM fun f => (P.info? f.type).map fun i => (f.offset, i.size) with
                | none => simp [hf, hl] at h
                | some ys =>
                  simp [hf, hl] at h
                  subst h
                  rw [List.mapM_cons]
                  have hs : ∀ w : World, (sizeOf f.type : Sem Nat).run P w = .ok i.size w := fun w => by simp [sizeOf, typeInfo, hf]
                  simp only [Sem.run_bind, hs, Result.andThen_ok, Sem.run_pure, ih ys hl]
          have h := key fs.toList pl e1
          rw [Sem.run_map, h]; rfl
        have hpl : ∀ i, nth pl i = pl.toArray[i]? := fun i => by rw [nth_eq]; simp
        have hf := fill_of_fillV (pl.toArray[·]?) pl hpl (evalParts st parts.toList) _ r (allParts_mem _ g1) (fun p _ x hx => by rw [← lenN_eq]; exact fitPlaces_nth _ _ g2 _ _ hx) e3
        rw [hd, evalParts_eq] at hf
        have hmap' : ∀ w : World, (fs.mapM fun f => Prod.mk f.offset <$> sizeOf f.type : Sem (Array (Nat × Nat))).run P w = .ok pl.toArray w := hmap
        simp [execOp, ho, Instr.build, zeroValue, typeInfo, hi, hz2, underlying, hfs, hmap', den]
        have hf' : Instr.fill (fun x => pl[x]?) z.cells (List.map (fun x => (x.1, (actOf st).eval x.2)) parts.toList) = some (denL r).toArray := by
          rw [← hf]; congr 1; funext x; simp
        simp [hf']
      · rename_i n e hfs
        obtain ⟨ie, hie, rfl⟩ := Option.map_eq_some_iff.1 e1
        obtain ⟨z, hz1, rfl⟩ := Option.map_eq_some_iff.1 e2
        obtain ⟨i, hi, hz2⟩ := Option.bind_eq_some_iff.1 hz1
        have hd : (denL (z.cells.toList.map ofValue)).toArray = z.cells := by
          apply Array.ext'
          simp only [denL_eq, List.map_map]
          rw [show den ∘ ofValue = id from funext den_ofValue, List.map_id]
        have hf := fill_of_fillV (nth (evenPlaces ie.size n 0)) (evenPlaces ie.size n 0) (fun _ => rfl) (evalParts st parts.toList) _ r (allParts_mem _ g1) (fun p _ x hx => by rw [← lenN_eq]; exact fitPlaces_nth _ _ g2 _ _ hx) e3
        rw [hd, evalParts_eq] at hf
        have hf' : Instr.fill (fun j => some (j * ie.size, ie.size)) z.cells (parts.toList.map fun p => (p.1, (actOf st).eval p.2)) = some (denL r).toArray := by
          rw [← hf]
          apply fill_place_congr
          intro x hx
          rw [← evalParts_eq] at hx
          obtain ⟨p, hp, rfl⟩ := List.mem_map.1 hx
          obtain ⟨y, hy⟩ := fillV_nth _ _ _ _ e3 p hp
          have hlt := nth_evenPlaces_some ie.size n 0 _ _ hy
          rw [nth_evenPlaces ie.size n 0 _ hlt]; simp
        simp [execOp, ho, Instr.build, zeroValue, sizeOf, typeInfo, hi, hie, hz2, underlying, hfs, hf', den]
      · cases e1
    · exact hS hx
  · exact hS hx



/-! ### Maps -/

def kvOf : SV → Option KV
  | .int k n => some (.i k n)
  | .str b => some (.s b)
  | _ => none
def kvsOf : List SV → Option (List KV)
  | [] => some []
  | c :: cs => match kvOf c, kvsOf cs with
    | some a, some l => some (a :: l)
    | _, _ => none
theorem kvOf_sv {v : SV} {k : KV} (h : kvOf v = some k) : v = k.sv := by
  cases v <;> simp [kvOf] at h <;> subst h <;> rfl
theorem kvsOf_sv : ∀ {cs : List SV} {l : List KV}, kvsOf cs = some l → cs = kvSvs l
  | [], l, h => by cases h; rfl
  | c :: cs, l, h => by
    simp only [kvsOf] at h
    split at h
    · rename_i a l' e1 e2
      cases h
      rw [kvOf_sv e1, kvsOf_sv e2]; rfl
    · cases h
def keyOf : SV → Option Key
  | .int k n => some (.i k n)
  | .str b => some (.s b)
  | .agg cs => match kvsOf cs with
    | some l => some (.g l)
    | none => none
  | _ => none
theorem keyOf_sv {v : SV} {k : Key} (h : keyOf v = some k) : v = k.sv := by
  cases v <;> simp [keyOf] at h
  case agg cs =>
    split at h
    · rename_i l e; cases h; rw [kvsOf_sv e]; rfl
    · cases h
  all_goals (subst h; rfl)

def keyFs (P : Program) : List Field → Nat → Option (List (Option IntKind))
  | [], _ => some []
  | f :: fs, off => match decide (f.name = "_") || !Nat.beq f.offset off with
    | true => none
    | false => match tlay P f.type, P.underlying f.type, keyFs P fs (off + 1) with
      | some (false, _), some (.int kk), some l => some (some kk :: l)
      | some (false, _), some .string, some l => some (none :: l)
      | _, _, _ => none
def tkey (P : Program) (t : TypeId) : Option (Option KK × TypeId) :=
  match P.underlying t with
  | some (.map k e) => match P.underlying k with
    | some (.int kk) => some (some (.ofInt kk), e)
    | some .string => some (none, e)
    | some (.struct fs) => match P.stoodInHeld k, keyFs P fs.toList 0 with
      | false, some l => some (some (.tup l), e)
      | _, _ => none
    | _ => none
  | _ => none
def KeyTy (P : Program) (kt : TypeId) (kd : Option KK) : Prop := (∃ kk, P.underlying kt = some (.int kk) ∧ kd = some (.ofInt kk)) ∨ (P.underlying kt = some .string ∧ kd = none) ∨
  ∃ fs l, P.underlying kt = some (.struct fs) ∧ P.stoodInHeld kt = false ∧ keyFs P fs.toList 0 = some l ∧ kd = some (.tup l)
def deepV : Value → SV
  | .agg cs => .agg (cs.toList.map ofValue)
  | v => ofValue v
theorem den_deepV (v : Value) : den (deepV v) = v := by
  cases v <;> first
    | (simp only [deepV]; exact den_ofValue _)
    | (rename_i cs; simp only [deepV, den, denL_eq, List.map_map]; rw [show den ∘ ofValue = id from funext den_ofValue, List.map_id])
def tzeroV (P : Program) (t : TypeId) : Option SV := ((P.info? t).bind (·.zero)).map deepV

def xlookup (P : Program) (st : Sy) (t : TypeId) (x i : SV) (ok : Bool) : Res :=
  match x, keyOf i, tkey P t with
  | .map l r, some k, some (kd, e) => match nth st.heap l, tzeroV P e with
    | some ⟨.blk r', .mapL kd' enc es⟩, some z => match ok with
      | true => .alt (r' = r ∧ keyKind k = kd ∧ kd' = kd) (mget es k) (fun v => .tuple [enc v, .bool true]) (.tuple [z, .bool false])
      | false => .alt (r' = r ∧ keyKind k = kd ∧ kd' = kd) (mget es k) (fun v => enc v) z
    | some ⟨.blk r', .map1 kd' enc es k0 r0⟩, some z => match r0 with
      | some v => match ok with
        | true => .req (r' = r ∧ k = k0 ∧ kd' = kd) (.tuple [v, .bool true])
        | false => .req (r' = r ∧ k = k0 ∧ kd' = kd) v
      | none => match ok with
        | true => .req (r' = r ∧ k = k0 ∧ kd' = kd) (.tuple [z, .bool false])
        | false => .req (r' = r ∧ k = k0 ∧ kd' = kd) z
    | some ⟨.blk r', .mapV kd' es⟩, some z => match ok with
      | true => .alt (r' = r ∧ keyKind k = kd ∧ kd' = kd) (mget es k) (fun v => .tuple [v, .bool true]) (.tuple [z, .bool false])
      | false => .alt (r' = r ∧ keyKind k = kd ∧ kd' = kd) (mget es k) (fun v => v) z
    | _, _ => .no
  | .raw (.map none), some k, some (kd, e) => match tzeroV P e with
    | some z => match ok with
      | true => .req (keyKind k = kd) (.tuple [z, .bool false])
      | false => .req (keyKind k = kd) z
    | none => .no
  | _, _, _ => .no

def xlenMap (P : Program) (st : Sy) (t : TypeId) (x : SV) : Res :=
  match P.underlying t, x with
  | some (.map _ _), .map l r => match nth st.heap l with
    | some ⟨.blk r', .mapL _ _ es⟩ => .req (r' = r) (.int .i64 (es.length : Int))
    | some ⟨.blk r', .map1 _ _ es _ _⟩ => .req (r' = r) (.int .i64 (es.length : Int))
    | some ⟨.blk r', .mapV _ es⟩ => .req (r' = r) (.int .i64 (es.length : Int))
    | _ => .no
  | some (.map _ _), .raw (.map none) => .ok (.int .i64 0)
  | _, _ => .no

theorem checkKey_plain (t : TypeId) (x : Value) (b : Bool) (n : Nat) (h : (∃ k, P.underlying t = some (.int k)) ∨ P.underlying t = some .string) : (Instr.checkKey b (n + 1) t x).run P w = .ok () w := by
  rcases h with ⟨k, h⟩ | h <;> simp [Instr.checkKey, underlying, h]

theorem sameNow_int {kk : IntKind} {k k' : Key} (h1 : keyKind k = some (.ofInt kk)) (h2 : keyKind k' = some (.ofInt kk)) : Instr.sameNow (.int kk) (den k.sv) (den k'.sv) = some (keyEq k k') := by
  cases k <;> cases k' <;> simp_all [keyKind, Key.sv, den, Instr.sameNow, keyEq]
theorem sameNow_str {k k' : Key} (h1 : keyKind k = none) (h2 : keyKind k' = none) : Instr.sameNow .string (den k.sv) (den k'.sv) = some (keyEq k k') := by
  cases k <;> cases k' <;> simp_all [keyKind, Key.sv, den, Instr.sameNow, keyEq]
theorem keyFs_part {a : List KV} : ∀ (fs : List Field) (off : Nat) (l : List (Option IntKind)) (px : List SV) (a : List KV), keyFs P fs off = some l → px.length = off → kvKinds a = l →
    ∀ f ∈ fs, f.name ≠ "_" ∧ ∃ x : KV, partV P f.type (px ++ kvSvs a) f.offset = some x.sv ∧ ((∃ k, P.underlying f.type = some (.int k)) ∨ P.underlying f.type = some .string)
  | [], _, _, _, _, _, _, _, _, hf => by cases hf
  | f0 :: fs, off, l, px, a, h, hpx, ha, f, hf => by
    simp only [keyFs] at h
    split at h
    · cases h
    · rename_i hc
      simp only [Bool.or_eq_false_iff, decide_eq_false_iff_not, Bool.not_eq_false', Nat.beq_eq_true_eq] at hc
      have key : ∀ (kd0 : Option IntKind) (l' : List (Option IntKind)) (n : Nat), tlay P f0.type = some (false, n) → keyFs P fs (off + 1) = some l' → l = kd0 :: l' → ((∃ k, P.underlying f0.type = some (.int k)) ∨ P.underlying f0.type = some .string) →
          f.name ≠ "_" ∧ ∃ x : KV, partV P f.type (px ++ kvSvs a) f.offset = some x.sv ∧ ((∃ k, P.underlying f.type = some (.int k)) ∨ P.underlying f.type = some .string) := by
        intro kd0 l' n e1 e3 el hu
        cases a with
        | nil => rw [el] at ha; cases ha
        | cons x a =>
          rw [el] at ha
          simp only [kvKinds, List.cons.injEq] at ha
          rcases List.mem_cons.1 hf with rfl | hf
          · refine ⟨hc.1, x, ?_, hu⟩
            unfold partV
            rw [e1]
            simp only [nth_eq, kvSvs]
            rw [Nat.eq_of_beq_eq_true hc.2, ← hpx, List.getElem?_append_right (Nat.le_refl _)]
            simp
          · have := keyFs_part (a := a) fs (off + 1) l' (px ++ [x.sv]) a e3 (by simp [hpx]) ha.2 f hf
            simpa [kvSvs] using this
      split at h
      · rename_i n kk l' e1 e2 e3
        cases h
        exact key _ _ _ e1 e3 rfl (.inl ⟨kk, e2⟩)
      · rename_i n l' e1 e2 e3
        cases h
        exact key _ _ _ e1 e3 rfl (.inr e2)
      · cases h
theorem eqFs_keys (n : Nat) : ∀ (fs : List Field) (off : Nat) (l : List (Option IntKind)) (px py : List SV) (a b : List KV), keyFs P fs off = some l → px.length = off → py.length = off → kvKinds a = l → kvKinds b = l →
    eqFs P (eqV P (n + 1)) (px ++ kvSvs a) (py ++ kvSvs b) fs = some (kvsEq a b)
  | [], _, l, px, py, a, b, h, _, _, ha, hb => by
    simp only [keyFs, Option.some.injEq] at h
    subst h
    have : a = [] := by cases a <;> simp_all [kvKinds]
    have : b = [] := by cases b <;> simp_all [kvKinds]
    subst_vars
    rfl
  | f0 :: fs, off, l, px, py, a, b, h, hpx, hpy, ha, hb => by
    simp only [keyFs] at h
    split at h
    · cases h
    · rename_i hc
      simp only [Bool.or_eq_false_iff, decide_eq_false_iff_not, Bool.not_eq_false', Nat.beq_eq_true_eq] at hc
      have key : ∀ (kd0 : Option IntKind) (l' : List (Option IntKind)) (m : Nat), tlay P f0.type = some (false, m) → keyFs P fs (off + 1) = some l' → l = kd0 :: l' →
          (∀ x y : KV, kvKind x = kd0 → kvKind y = kd0 → eqV P (n + 1) f0.type x.sv y.sv = some (kvEq x y)) → eqFs P (eqV P (n + 1)) (px ++ kvSvs a) (py ++ kvSvs b) (f0 :: fs) = some (kvsEq a b) := by
        intro kd0 l' m e1 e3 el hu
        cases a with
        | nil => rw [el] at ha; cases ha
        | cons x a =>
          cases b with
          | nil => rw [el] at hb; cases hb
          | cons y b =>
            rw [el] at ha hb
            simp only [kvKinds, List.cons.injEq] at ha hb
            have p1 : partV P f0.type (px ++ kvSvs (x :: a)) f0.offset = some x.sv := by
              unfold partV
              rw [e1]
              simp only [nth_eq, kvSvs]
              rw [Nat.eq_of_beq_eq_true hc.2, ← hpx, List.getElem?_append_right (Nat.le_refl _)]
              simp
            have p2 : partV P f0.type (py ++ kvSvs (y :: b)) f0.offset = some y.sv := by
              unfold partV
              rw [e1]
              simp only [nth_eq, kvSvs]
              rw [Nat.eq_of_beq_eq_true hc.2, ← hpy, List.getElem?_append_right (Nat.le_refl _)]
              simp
            have ih := eqFs_keys n fs (off + 1) l' (px ++ [x.sv]) (py ++ [y.sv]) a b e3 (by simp [hpx]) (by simp [hpy]) ha.2 hb.2
            simp only [List.append_assoc, List.singleton_append] at ih
            have ih : eqFs P (eqV P (n + 1)) (px ++ kvSvs (x :: a)) (py ++ kvSvs (y :: b)) fs = some (kvsEq a b) := ih
            simp only [eqFs, decide_eq_false hc.1, p1, p2, hu x y ha.1 hb.1, ih, kvsEq]
      split at h
      · rename_i m kk l' e1 e2 e3
        cases h
        refine key _ _ _ e1 e3 rfl fun x y hx hy => ?_
        clear key
        cases x <;> cases y <;> simp only [kvKind, reduceCtorEq, Option.some.injEq] at hx hy
        subst hx; subst hy
        simp only [KV.sv, eqV, e2, kvEq, if_true]
      · rename_i m l' e1 e2 e3
        cases h
        refine key _ _ _ e1 e3 rfl fun x y hx hy => ?_
        clear key
        cases x <;> cases y <;> simp only [kvKind, reduceCtorEq] at hx hy
        simp only [KV.sv, eqV, e2, kvEq]
        simp [sEq, beq_toListBytes]
      · cases h
theorem eqV_struct (n : Nat) {kt : TypeId} {fs : Array Field} (hu : P.underlying kt = some (.struct fs)) (hs : P.stoodInHeld kt = false) (xs ys : List SV) : eqV P (n + 1) kt (.agg xs) (.agg ys) = eqFs P (eqV P n) xs ys fs.toList := by
  simp only [eqV, hu, hs]
theorem run_equal_key {kt : TypeId} {fs : Array Field} {l : List (Option IntKind)} (hu : P.underlying kt = some (.struct fs)) (hs : P.stoodInHeld kt = false) (hl : keyFs P fs.toList 0 = some l) {k k' : Key} (h1 : keyKind k = some (.tup l)) (h2 : keyKind k' = some (.tup l)) (w : World) :
    (Op.equal kt (den k.sv) (den k'.sv)).run P w = .ok (keyEq k k') w := by
  cases k <;> cases k' <;> simp only [keyKind, Option.some.injEq, reduceCtorEq, KK.tup.injEq] at h1 h2
  rename_i a b
  refine run_eqV 2 10000 kt _ _ _ (by decide) ?_
  have := eqFs_keys (P := P) 0 fs.toList 0 l [] [] a b hl rfl rfl h1 h2
  simp only [Key.sv, keyEq]
  exact (eqV_struct 1 hu hs _ _).trans this
theorem run_forUnit {α : Type} (g : α → PUnit → Sem (ForInStep PUnit)) (w : World) : ∀ l : List α, (∀ x ∈ l, (g x ⟨⟩).run P w = .ok (.yield ⟨⟩) w) → (forIn l ⟨⟩ g).run P w = .ok ⟨⟩ w
  | [], _ => rfl
  | x :: l, h => by
    rw [List.forIn_cons]
    simp only [Sem.run_bind, h x List.mem_cons_self, Result.andThen_ok]
    exact run_forUnit g w l fun y hy => h y (List.mem_cons_of_mem _ hy)
theorem checkKey_ok {kt : TypeId} {kd : Option KK} (hkt : KeyTy P kt kd) {k : Key} (hk : keyKind k = kd) (b : Bool) : (Instr.checkKey b 10000 kt (den k.sv)).run P w = .ok () w := by
  rcases hkt with ⟨kk, hu, _⟩ | ⟨hu, _⟩ | ⟨fs, l, hu, hs, hl, rfl⟩
  · exact checkKey_plain kt _ b 9999 (.inl ⟨kk, hu⟩)
  · exact checkKey_plain kt _ b 9999 (.inr hu)
  · cases k <;> simp only [keyKind, Option.some.injEq, reduceCtorEq, KK.tup.injEq] at hk
    rename_i a
    have hp := keyFs_part (P := P) (a := a) fs.toList 0 l [] a hl rfl hk
    have e : Instr.checkKey b 10000 kt (den (Key.g a).sv) = Instr.checkKey b (9999 + 1) kt (.agg (denL (kvSvs a)).toArray) := rfl
    rw [e, Instr.checkKey]
    simp only [Sem.run_bind, underlying, run_program, Result.andThen_ok, hu, Sem.run_pure]
    rw [← Array.forIn_toList]
    rw [run_forUnit]
    · rfl
    · intro f hf
      obtain ⟨g1, x, g2, g3⟩ := hp f hf
      have g4 := run_partV (P := P) (w := w) f.type (kvSvs a) f.offset x.sv (by simpa using g2)
      have g5 := checkKey_plain (P := P) (w := w) f.type (den x.sv) b 9998 g3
      simp [g1, g4, g5]
def scanK {β : Type} (k : Key) : List (Key × β) → List MapEntry → Nat → Option (Nat × Value)
  | (k', _) :: es, e :: ents, i => match keyEq k k' with
    | true => some (i, e.val)
    | false => scanK k es ents (i + 1)
  | _, _, _ => none
theorem findNow_scan {β : Type} {d : TypeDesc} {kd : Option KK} (hd : ∀ k k', keyKind k = kd → keyKind k' = kd → Instr.sameNow d (den k.sv) (den k'.sv) = some (keyEq k k')) (enc : β → SV) {k : Key} (h1 : keyKind k = kd) : ∀ (ents : List MapEntry) (es : List (Key × β)) (i : Nat),
    (∀ e ∈ es, keyKind e.1 = kd) → ents.map (fun e => (e.key, e.val)) = es.map (fun e => (den e.1.sv, den (enc e.2))) → Instr.findNow d (den k.sv) ents i = some (scanK k es ents i)
  | [], es, i, _, he => by
    have : es = [] := by cases es <;> simp_all
    subst this
    rfl
  | e :: ents, es, i, hk, he => by
    cases es with
    | nil => simp at he
    | cons e' es =>
      obtain ⟨k', v'⟩ := e'
      simp only [List.map_cons, List.cons.injEq, Prod.mk.injEq] at he
      obtain ⟨⟨ek, ev⟩, he⟩ := he
      have hs := hd k k' h1 (hk (k', v') List.mem_cons_self)
      simp only [Instr.findNow, ek, hs, scanK]
      cases keyEq k k' with
      | true => rfl
      | false => exact findNow_scan hd enc h1 ents es (i + 1) (fun e h => hk e (List.mem_cons_of_mem _ h)) he
theorem findAsking_scan {β : Type} {kt : TypeId} {kd : Option KK} (hd : ∀ k k', keyKind k = kd → keyKind k' = kd → (Op.equal kt (den k.sv) (den k'.sv)).run P w = .ok (keyEq k k') w) (enc : β → SV) {k : Key} (h1 : keyKind k = kd) : ∀ (ents : List MapEntry) (es : List (Key × β)) (i : Nat),
    (∀ e ∈ es, keyKind e.1 = kd) → ents.map (fun e => (e.key, e.val)) = es.map (fun e => (den e.1.sv, den (enc e.2))) → (Instr.findAsking kt (den k.sv) ents i).run P w = .ok (scanK k es ents i) w
  | [], es, i, _, he => by
    have : es = [] := by cases es <;> simp_all
    subst this
    rfl
  | e :: ents, es, i, hk, he => by
    cases es with
    | nil => simp at he
    | cons e' es =>
      obtain ⟨k', v'⟩ := e'
      simp only [List.map_cons, List.cons.injEq, Prod.mk.injEq] at he
      obtain ⟨⟨ek, ev⟩, he⟩ := he
      have hs := hd k k' h1 (hk (k', v') List.mem_cons_self)
      simp only [Instr.findAsking, Sem.run_bind, ek, hs, Result.andThen_ok, scanK]
      cases keyEq k k' with
      | true => simp
      | false => simpa using findAsking_scan hd enc h1 ents es (i + 1) (fun e h => hk e (List.mem_cons_of_mem _ h)) he
theorem run_findKey {β : Type} {kt : TypeId} {kd : Option KK} (hkt : KeyTy P kt kd) {enc : β → SV} {k : Key} (hk : keyKind k = kd) {ents : List MapEntry} {es : List (Key × β)} (hks : ∀ e ∈ es, keyKind e.1 = kd) (he : ents.map (fun e => (e.key, e.val)) = es.map (fun e => (den e.1.sv, den (enc e.2)))) :
    (Instr.findKey kt (den k.sv) ents).run P w = .ok (scanK k es ents 0) w := by
  unfold Instr.findKey
  rcases hkt with ⟨kk, hu, rfl⟩ | ⟨hu, rfl⟩ | ⟨fs, l, hu, hs, hl, rfl⟩
  · simp [underlying, hu, findNow_scan (fun k k' => sameNow_int) enc hk ents es 0 hks he]
  · simp [underlying, hu, findNow_scan (fun k k' => sameNow_str) enc hk ents es 0 hks he]
  · cases ents with
    | nil =>
      have : es = [] := by cases es <;> simp_all
      subst this
      simp [underlying, hu, Instr.findNow, scanK]
    | cons e ents =>
      have hf : Instr.findNow (.struct fs) (den k.sv) (e :: ents) 0 = none := by
        simp only [Instr.findNow, Instr.sameNow]
      have := findAsking_scan (P := P) (w := w) (fun k k' h1 h2 => run_equal_key hu hs hl h1 h2 w) enc hk (e :: ents) es 0 hks he
      simp [underlying, hu, hf, this]
theorem scan_mget {β : Type} (enc : β → SV) {k : Key} : ∀ (ents : List MapEntry) (es : List (Key × β)) (i : Nat), ents.map (fun e => (e.key, e.val)) = es.map (fun e => (den e.1.sv, den (enc e.2))) → (scanK k es ents i).map (·.2) = (mget es k).map fun v => den (enc v)
  | [], es, i, he => by
    have : es = [] := by cases es <;> simp_all
    subst this
    rfl
  | e :: ents, es, i, he => by
    cases es with
    | nil => simp at he
    | cons e' es =>
      obtain ⟨k', v'⟩ := e'
      simp only [List.map_cons, List.cons.injEq, Prod.mk.injEq] at he
      obtain ⟨⟨ek, ev⟩, he⟩ := he
      simp only [scanK, mget]
      cases keyEq k k' with
      | true => simp [ev]
      | false => exact scan_mget enc ents es (i + 1) he

theorem tkey_spec {t : TypeId} {kd : Option KK} {e : TypeId} (h : tkey P t = some (kd, e)) : ∃ k, P.underlying t = some (.map k e) ∧ KeyTy P k kd := by
  unfold tkey at h
  split at h
  · rename_i k e' hu
    split at h
    · rename_i kk hk; cases h; exact ⟨k, hu, .inl ⟨kk, hk, rfl⟩⟩
    · rename_i hk; cases h; exact ⟨k, hu, .inr (.inl ⟨hk, rfl⟩)⟩
    · rename_i fs hk
      split at h
      · rename_i l e1 e2; cases h; exact ⟨k, hu, .inr (.inr ⟨fs, l, hk, e1, e2, rfl⟩)⟩
      · cases h
    · cases h
  · cases h

theorem run_zeroV {e : TypeId} {z : SV} (h : tzeroV P e = some z) (w : World) : (zeroValue e).run P w = .ok (den z) w := by
  obtain ⟨v, hv, rfl⟩ := Option.map_eq_some_iff.1 h
  obtain ⟨i, hi, hz⟩ := Option.bind_eq_some_iff.1 hv
  rw [den_deepV]
  simp [zeroValue, typeInfo, hi, hz]

theorem Rep.map {h : List Ent} {l r : Nat} {β : Type} {kd : Option KK} {enc : β → SV} {es : List (Key × β)} (hr : Rep W F h w) (hl : nth h l = some ⟨.blk r, .mapL kd enc es⟩) :
    (∀ e ∈ es, keyKind e.1 = kd) ∧ ∃ (ents : List MapEntry) (clock : Nat), w.heap[r]? = some (.map ents.toArray clock) ∧ ents.map (fun e => (e.key, e.val)) = es.map fun e => (den e.1.sv, den (enc e.2)) := by
  obtain ⟨c, L, hc, hH, _⟩ := hr.get hl
  obtain ⟨hk, ents, clock, rfl, _, he⟩ := hc
  exact ⟨hk, ents, clock, hH.get _ _ (by simp), he⟩

theorem Rep.mapV {h : List Ent} {l r : Nat} {kd : Option KK} {es : List (Key × SV)} (hr : Rep W F h w) (hl : nth h l = some ⟨.blk r, .mapV kd es⟩) :
    (∀ e ∈ es, keyKind e.1 = kd) ∧ ∃ (ents : List MapEntry) (clock : Nat), w.heap[r]? = some (.map ents.toArray clock) ∧ ents.map (fun e => (e.key, e.val)) = es.map fun e => (den e.1.sv, den ((fun v : SV => v) e.2)) := by
  obtain ⟨c, L, hc, hH, _⟩ := hr.get hl
  obtain ⟨hk, ents, clock, rfl, _, he⟩ := hc
  exact ⟨hk, ents, clock, hH.get _ _ (by simp), he⟩

theorem Rep.map1 {h : List Ent} {l r : Nat} {β : Type} {kd : Option KK} {enc : β → SV} {es : List (Key × β)} {k0 : Key} {r0 : Option SV} (hr : Rep W F h w) (hl : nth h l = some ⟨.blk r, .map1 kd enc es k0 r0⟩) :
    (keyKind k0 = kd ∧ (mget es k0).map (fun v => den (enc v)) = r0.map den) ∧ (∀ e ∈ es, keyKind e.1 = kd) ∧ ∃ (ents : List MapEntry) (clock : Nat), w.heap[r]? = some (.map ents.toArray clock) ∧ ents.map (fun e => (e.key, e.val)) = es.map fun e => (den e.1.sv, den (enc e.2)) := by
  obtain ⟨c, L, hc, hH, _⟩ := hr.get hl
  obtain ⟨h0, hk, ents, clock, rfl, _, he⟩ := hc
  exact ⟨h0, hk, ents, clock, hH.get _ _ (by simp), he⟩

theorem run_getObj_at {w : World} {r : Nat} {es : Array MapEntry} {n : Nat} (h : w.heap[r]? = some (.map es n)) : (getObj r).run P w = .ok (.map es n) w := by
  simp [getObj, Sem.run, h]

theorem run_lookup (t : TypeId) {kt e : TypeId} {kd : Option KK} (hu : P.underlying t = some (.map kt e)) (hkt : KeyTy P kt kd)
    {r : Nat} {ents : List MapEntry} {clock : Nat} (hh : w.heap[r]? = some (.map ents.toArray clock)) {k : Key} (hk : keyKind k = kd) {z : SV} (hz : tzeroV P e = some z) (b : Bool)
    {β : Type} {enc : β → SV} {es : List (Key × β)} (hks : ∀ e ∈ es, keyKind e.1 = kd) (he : ents.map (fun e => (e.key, e.val)) = es.map fun e => (den e.1.sv, den (enc e.2))) :
    (Instr.lookup t (.map (some r)) (den k.sv) b).run P w = .ok (match mget es k with
      | some v => if b then .tuple #[den (enc v), .bool true] else den (enc v)
      | none => if b then .tuple #[den z, .bool false] else den z) w := by
  have hm := scan_mget enc (k := k) ents es 0 he
  have hfind := run_findKey (w := w) hkt hk hks he
  have hck : (Instr.checkKey (ents.toArray.isEmpty) 10000 kt (den k.sv)).run P w = .ok () w := checkKey_ok hkt hk _
  generalize scanK k es ents 0 = r0 at hm hfind
  unfold Instr.lookup
  simp only [Sem.run_bind, underlying, run_program, Result.andThen_ok, hu, Sem.run_pure, run_getObj_at hh, hck, hfind]
  cases r0 with
  | none =>
    have hn : mget es k = none := by cases hq : mget es k <;> simp [hq] at hm ⊢
    rw [hn]
    simp only [Sem.run_bind, run_zeroV hz, Result.andThen_ok, Sem.run_pure]
  | some x =>
    obtain ⟨i0, v0⟩ := x
    cases hq : mget es k with
    | none => simp [hq] at hm
    | some v =>
      simp only [hq, Option.map_some, Option.some.injEq] at hm
      subst hm
      simp

theorem yields_xlookup {T : SV → Prop} {Goal : Prop} (S : Prop) (t : TypeId) (x i : Operand) (b : Bool) (ho : o.op = .lookup t x i b) (hr : Rep W F st.heap w) (fin : ∀ v, (execOp (actOf st).eval o).run P w = .ok (.value (den v)) w → T v → Goal)
    (hx : (xlookup P st t (st.eval x) (st.eval i) b).holds T S) (hS : S → Goal) : Goal := by
  have h1 := den_eval st x
  have h2 := den_eval st i
  unfold xlookup at hx
  split at hx
  · rename_i l r k kd e e1 e2 e3
    rw [e1] at h1
    rw [keyOf_sv e2] at h2
    obtain ⟨kt, hu, hkt⟩ := tkey_spec e3
    split at hx
    · rename_i r' β kd' enc es z e4 e5
      obtain ⟨hks, ents, clock, hh, he⟩ := hr.map e4
      have main : r' = r → keyKind k = kd → kd' = kd → (execOp (actOf st).eval o).run P w = .ok (.value (match mget es k with
          | some v => if b then .tuple #[den (enc v), .bool true] else den (enc v)
          | none => if b then .tuple #[den z, .bool false] else den z)) w := by
        rintro rfl hk rfl
        have := run_lookup (w := w) t hu hkt hh hk e5 b hks he
        simp only [execOp, ho, Sem.run_bind, ← h1, ← h2, den, this, Result.andThen_ok, Sem.run_pure]
      cases b with
      | true =>
        obtain ⟨⟨c1, c2, c3⟩, hx⟩ := hx
        have hm := main c1 c2 c3
        split at hx
        · rename_i v hv; rw [hv] at hm; exact fin (.tuple [enc v, .bool true]) hm hx
        · rename_i hv; rw [hv] at hm; exact fin (.tuple [z, .bool false]) hm hx
      | false =>
        obtain ⟨⟨c1, c2, c3⟩, hx⟩ := hx
        have hm := main c1 c2 c3
        split at hx
        · rename_i v hv; rw [hv] at hm; exact fin (enc v) hm hx
        · rename_i hv; rw [hv] at hm; exact fin z hm hx
    · rename_i r' β kd' enc es k0 r0 z e4 e5
      obtain ⟨⟨hk0, hr0⟩, hks, ents, clock, hh, he⟩ := hr.map1 e4
      have main : r' = r → k = k0 → kd' = kd → (execOp (actOf st).eval o).run P w = .ok (.value (match (generalizing := false) r0 with
          | some v => if b then .tuple #[den v, .bool true] else den v
          | none => if b then .tuple #[den z, .bool false] else den z)) w := by
        rintro rfl rfl rfl
        have := run_lookup (w := w) t hu hkt hh hk0 e5 b hks he
        simp only [execOp, ho, Sem.run_bind, ← h1, ← h2, den, this, Result.andThen_ok, Sem.run_pure]
        clear hx e4
        cases hg : mget es k <;> cases r0 <;> simp only [hg, Option.map_some, Option.map_none, Option.some.injEq, reduceCtorEq] at hr0
        · rfl
        · simp only [hr0]
      split at hx
      · rename_i v
        cases b with
        | true =>
          obtain ⟨⟨c1, c2, c3⟩, hx⟩ := hx
          exact fin (.tuple [v, .bool true]) (main c1 c2 c3) hx
        | false =>
          obtain ⟨⟨c1, c2, c3⟩, hx⟩ := hx
          exact fin v (main c1 c2 c3) hx
      · cases b with
        | true =>
          obtain ⟨⟨c1, c2, c3⟩, hx⟩ := hx
          exact fin (.tuple [z, .bool false]) (main c1 c2 c3) hx
        | false =>
          obtain ⟨⟨c1, c2, c3⟩, hx⟩ := hx
          exact fin z (main c1 c2 c3) hx
    · rename_i r' kd' es z e4 e5
      obtain ⟨hks, ents, clock, hh, he⟩ := hr.mapV e4
      have main : r' = r → keyKind k = kd → kd' = kd → (execOp (actOf st).eval o).run P w = .ok (.value (match mget es k with
          | some v => if b then .tuple #[den v, .bool true] else den v
          | none => if b then .tuple #[den z, .bool false] else den z)) w := by
        rintro rfl hk rfl
        have := run_lookup (w := w) (enc := fun v : SV => v) t hu hkt hh hk e5 b hks he
        simp only [execOp, ho, Sem.run_bind, ← h1, ← h2, den, this, Result.andThen_ok, Sem.run_pure]
        cases mget es k <;> rfl
      cases b with
      | true =>
        obtain ⟨⟨c1, c2, c3⟩, hx⟩ := hx
        have hm := main c1 c2 c3
        split at hx
        · rename_i v hv; rw [hv] at hm; exact fin (.tuple [v, .bool true]) hm hx
        · rename_i hv; rw [hv] at hm; exact fin (.tuple [z, .bool false]) hm hx
      | false =>
        obtain ⟨⟨c1, c2, c3⟩, hx⟩ := hx
        have hm := main c1 c2 c3
        split at hx
        · rename_i v hv; rw [hv] at hm; exact fin v hm hx
        · rename_i hv; rw [hv] at hm; exact fin z hm hx
    · exact hS hx
  · rename_i k kd e e1 e2 e3
    rw [e1] at h1
    rw [keyOf_sv e2] at h2
    obtain ⟨kt, hu, hkt⟩ := tkey_spec e3
    split at hx
    · rename_i z e5
      have main : keyKind k = kd → (execOp (actOf st).eval o).run P w = .ok (.value (if b then .tuple #[den z, .bool false] else den z)) w := by
        intro hk
        have hck : (Instr.checkKey true 10000 kt (den k.sv)).run P w = .ok () w := checkKey_ok hkt hk _
        have hfind : (Instr.findKey kt (den k.sv) []).run P w = .ok none w := run_findKey (β := Unit) (enc := fun _ => .bool true) (es := []) hkt hk (fun _ h => by cases h) rfl
        have : (Instr.lookup t (.map none) (den k.sv) b).run P w = .ok (if b then .tuple #[den z, .bool false] else den z) w := by
          unfold Instr.lookup
          simp [underlying, hu, hck, hfind, run_zeroV e5]
        simp only [execOp, ho, Sem.run_bind, ← h1, ← h2, den, this, Result.andThen_ok, Sem.run_pure]
      cases b with
      | true => exact fin (.tuple [z, .bool false]) (main hx.1) hx.2
      | false => exact fin z (main hx.1) hx.2
    · exact hS hx
  · exact hS hx

theorem yields_xlenMap {T : SV → Prop} {Goal : Prop} (S : Prop) (t : TypeId) (x : Operand) (ho : o.op = .call ⟨.builtin .len, #[x], #[t]⟩) (hr : Rep W F st.heap w) (fin : ∀ v, (execOp (actOf st).eval o).run P w = .ok (.value (den v)) w → T v → Goal)
    (hx : (xlenMap P st t (st.eval x)).holds T S) (hS : S → Goal) : Goal := by
  have h1 := den_eval st x
  have hr1 : (execOp (actOf st).eval o).run P w = (do pure (Next.value (← Builtin.len_ #[t] o.type #[den (st.eval x)])) : Sem Next).run P w := by
    rw [h1]; simp [execOp, ho, resolve, invoke, builtin]
  unfold xlenMap at hx
  split at hx
  · rename_i kt e l r hu e1
    split at hx
    · rename_i r' β kd enc es e4
      obtain ⟨hks, ents, clock, hh, he⟩ := hr.map e4
      obtain ⟨rfl, hx⟩ := hx
      refine fin _ ?_ hx
      have hlen : ents.length = es.length := by simpa using congrArg List.length he
      rw [hr1, e1]
      simp [Builtin.len_, underlying, hu, den, run_getObj_at hh, goInt, hlen]
    · rename_i r' β kd enc es k0 r0 e4
      obtain ⟨_, hks, ents, clock, hh, he⟩ := hr.map1 e4
      obtain ⟨rfl, hx⟩ := hx
      refine fin _ ?_ hx
      have hlen : ents.length = es.length := by simpa using congrArg List.length he
      rw [hr1, e1]
      simp [Builtin.len_, underlying, hu, den, run_getObj_at hh, goInt, hlen]
    · rename_i r' kd es e4
      obtain ⟨hks, ents, clock, hh, he⟩ := hr.mapV e4
      obtain ⟨rfl, hx⟩ := hx
      refine fin _ ?_ hx
      have hlen : ents.length = es.length := by simpa using congrArg List.length he
      rw [hr1, e1]
      simp [Builtin.len_, underlying, hu, den, run_getObj_at hh, goInt, hlen]
    · exact hS hx
  · rename_i kt e hu e1
    refine fin _ ?_ hx
    rw [hr1, e1]
    simp [Builtin.len_, underlying, hu, den, goInt]
  · exact hS hx

def isMapT (P : Program) (t : TypeId) : Bool :=
  match P.underlying t with
  | some (.map _ _) => true
  | _ => false

def xres (P : Program) (st : Sy) (op : Op) : Res :=
  match op with
  | .load t x => xload P st t (st.eval x)
  | .indexAddr t x i => xindexAddr P st t (st.eval x) (st.eval i)
  | .build t parts => xbuild P st t parts.toList
  | .lookup t x i b => xlookup P st t (st.eval x) (st.eval i) b
  | .call ⟨.builtin .len, ⟨[x]⟩, ⟨[t]⟩⟩ => match isMapT P t with
    | true => xlenMap P st t (st.eval x)
    | false => xpure P st op
  | op => xpure P st op

theorem yields_xres {T : SV → Prop} {Goal : Prop} (S : Prop) (hr : Rep W F st.heap w) (fin : ∀ v, (execOp (actOf st).eval o).run P w = .ok (.value (den v)) w → T v → Goal)
    (hx : (xres P st o.op).holds T S) (hS : S → Goal) : Goal := by
  unfold xres at hx
  split at hx
  · rename_i t x ho; exact yields_xload S t x ho hr fin hx hS
  · rename_i t x i ho; exact yields_xindexAddr S t x i ho hr fin hx hS
  · rename_i t parts ho; exact yields_xbuild S t parts ho fin hx hS
  · rename_i t x i b ho; exact yields_xlookup S t x i b ho hr fin hx hS
  · rename_i x t ho
    split at hx
    · exact yields_xlenMap S t x ho hr fin hx hS
    · exact yields_xpure S fin hx hS
  · exact yields_xpure S fin hx hS

def stillB (o : Oper) : Bool :=
  match o.op with
  | .load .. | .indexAddr .. | .lookup .. | .call _ => false
  | _ => true

theorem yields_nr {T : SV → Prop} {Goal : Prop} (S : Prop) (hst : stillB o = true) (fin : ∀ v, (execOp (actOf st).eval o).run P w = .ok (.value (den v)) w → T v → Goal)
    (hx : (xres P st o.op).holds T S) (hS : S → Goal) : Goal := by
  unfold xres at hx
  split at hx
  · rename_i t x ho; simp [stillB, ho] at hst
  · rename_i t x i ho; simp [stillB, ho] at hst
  · rename_i t parts ho; exact yields_xbuild S t parts ho fin hx hS
  · rename_i t x i b ho; simp [stillB, ho] at hst
  · rename_i x t ho; simp [stillB, ho] at hst
  · exact yields_xpure S fin hx hS

theorem yields_still {T : SV → Prop} {Goal : Prop} (S : Prop) (hst : stillB o = true) (fin : ∀ v, (∀ w, (execOp (actOf st).eval o).run P w = .ok (.value (den v)) w) → T v → Goal)
    (hx : (xres P st o.op).holds T S) (hS : S → Goal) : Goal := by
  cases h : xres P st o.op with
  | ok v =>
    rw [h] at hx
    exact fin v (fun w => yields_nr (T := fun v' => v' = v) False hst (fun v' h1 h2 => h2 ▸ h1) (by rw [h]; exact rfl) False.elim) hx
  | req c v =>
    rw [h] at hx
    exact fin v (fun w => yields_nr (T := fun v' => v' = v) False hst (fun v' h1 h2 => h2 ▸ h1) (by rw [h]; exact ⟨hx.1, rfl⟩) False.elim) hx.2
  | alt c o' f z =>
    rw [h] at hx
    obtain ⟨hc, hx⟩ := hx
    cases o' with
    | some v => exact fin (f v) (fun w => yields_nr (T := fun v' => v' = f v) False hst (fun v' h1 h2 => h2 ▸ h1) (by rw [h]; exact ⟨hc, rfl⟩) False.elim) hx
    | none => exact fin z (fun w => yields_nr (T := fun v' => v' = z) False hst (fun v' h1 h2 => h2 ▸ h1) (by rw [h]; exact ⟨hc, rfl⟩) False.elim) hx
  | no => rw [h] at hx; exact hS hx

theorem yields_class {T : SV → Prop} {Goal : Prop} (S : Prop) (fin : ∀ v, (∀ w, Rep W F st.heap w → (execOp (actOf st).eval o).run P w = .ok (.value (den v)) w) → T v → Goal)
    (hx : (xres P st o.op).holds T S) (hS : S → Goal) : Goal := by
  cases h : xres P st o.op with
  | ok v =>
    rw [h] at hx
    exact fin v (fun w hr => yields_xres (T := fun v' => v' = v) False hr (fun v' h1 h2 => h2 ▸ h1) (by rw [h]; exact rfl) False.elim) hx
  | req c v =>
    rw [h] at hx
    exact fin v (fun w hr => yields_xres (T := fun v' => v' = v) False hr (fun v' h1 h2 => h2 ▸ h1) (by rw [h]; exact ⟨hx.1, rfl⟩) False.elim) hx.2
  | alt c o' f z =>
    rw [h] at hx
    obtain ⟨hc, hx⟩ := hx
    cases o' with
    | some v => exact fin (f v) (fun w hr => yields_xres (T := fun v' => v' = f v) False hr (fun v' h1 h2 => h2 ▸ h1) (by rw [h]; exact ⟨hc, rfl⟩) False.elim) hx
    | none => exact fin z (fun w hr => yields_xres (T := fun v' => v' = z) False hr (fun v' h1 h2 => h2 ▸ h1) (by rw [h]; exact ⟨hc, rfl⟩) False.elim) hx
  | no => rw [h] at hx; exact hS hx
end
end Go.Proofs.Ytkcmgcoppecfpaa

