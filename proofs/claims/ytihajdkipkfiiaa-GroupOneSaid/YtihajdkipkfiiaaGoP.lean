/- GroupOne: what its calls do to the groups. -/
import Derived.Test.YtihajdkipkfiiaaGrpT
import Derived.Test.YtihajdkipkfiiaaGrp2
import Derived.Test.YtihajdkipkfiiaaSrt
namespace Go.Proofs.Ytihajdkipkfiiaa
open Go Go.RowKit
set_option linter.unusedVariables false
set_option linter.unusedSimpArgs false
set_option linter.unnecessarySimpa false

def encU8 (x : Int) : List SV := [.int .u8 x]
/-- A function that needs nothing and says 'true'. -/
def trueC : Ctr := fun args hs N => match args with
  | [] => N hs (.bool true)
  | _ => False
def names4 : List ByteArray := [⟨#[97]⟩, ⟨#[98]⟩, ⟨#[99]⟩, ⟨#[100]⟩]
def nm4 (k : Nat) : ByteArray := names4.getD k ⟨#[]⟩
theorem nm4_all : ∀ i : _root_.Fin 4, ∀ j : _root_.Fin 4, keyEq (.s (nm4 i.1)) (.s (nm4 j.1)) = decide (i.1 = j.1) ∧ sEq (nm4 i.1) (nm4 j.1) = decide (i.1 = j.1) := by decide +kernel
theorem nm4_key {i j : Nat} (hi : i < 4) (hj : j < 4) : keyEq (.s (nm4 i)) (.s (nm4 j)) = decide (i = j) := (nm4_all ⟨i, hi⟩ ⟨j, hj⟩).1
theorem nm4_eq {i j : Nat} (hi : i < 4) (hj : j < 4) : sEq (nm4 i) (nm4 j) = decide (i = j) := (nm4_all ⟨i, hi⟩ ⟨j, hj⟩).2
theorem key_int (a b : Int) : keyEq (.i .i64 a) (.i .i64 b) = decide (a = b) := by rw [Bool.eq_iff_iff]; simp [keyEq]

/-- One group's members: those of the array. -/
structure MO (arr : List Int) (k : Nat) (ms : List (Key × Unit)) : Prop where
  ok : keysOk ms
  key : ∀ e ∈ ms, ∃ p : Nat, (2 ≤ p ∧ p < 10) ∧ e.1 = .i .i64 (p : Int)
  has : ∀ p : Nat, 2 ≤ p → p < 10 → mget ms (.i .i64 (p : Int)) = if arr.getD p 0 = (k : Int) + 1 then some () else none
/-- What stands in the groups. -/
structure GO (s : Grp) (arr : List Int) : Prop where
  len : arr.length = 10
  gk : keysOk s.gs
  g : ∀ k : Nat, k < 4 → ∃ nb ms, mget s.gs (.s (nm4 k)) = some (nb, ms) ∧ MO arr k ms
  ok : keysOk s.of
  o : ∀ p : Nat, 2 ≤ p → p < 10 → (arr.getD p 0 = 0 ∧ mget s.of (.i .i64 (p : Int)) = none) ∨ ∃ k : Nat, k < 4 ∧ arr.getD p 0 = (k : Int) + 1 ∧ mget s.of (.i .i64 (p : Int)) = some (nm4 k)
  nd : s.notes.Nodup
  nt : ∀ x ∈ s.notes, ∃ k : Nat, k < 4 ∧ x = nm4 k

theorem getD_set_of {arr : List Int} (hl : arr.length = 10) {p q : Nat} (hp : p < 10) (v : Int) : (arr.set p v).getD q 0 = if q = p then v else arr.getD q 0 := by
  rw [List.getD, List.getElem?_set]
  by_cases h : q = p
  · subst h; simp [hl, hp]
  · have : ¬ p = q := fun e => h e.symm
    simp [h, this, List.getD]
theorem set_same {arr : List Int} {p : Nat} {v : Int} (h : arr.getD p 0 = v) (hp : p < arr.length) : arr.set p v = arr := by
  refine List.ext_getElem? fun i => ?_
  rw [List.getElem?_set]
  split
  · rename_i e; subst e
    rw [← h, List.getD, List.getElem?_eq_getElem hp]; simp [hp]
  · rfl
theorem sub4 : ∀ (n : Nat) (l : List Nat), l.Nodup → (∀ x ∈ l, x < n) → l.length ≤ n
  | 0, l, _, h => by
    cases l with
    | nil => simp
    | cons x l => have := h x List.mem_cons_self; omega
  | n + 1, l, hd, h => by
    by_cases hn : n ∈ l
    · have h1 := sub4 n (l.erase n) (hd.erase n) fun x hx => by
        have h2 := (List.Nodup.mem_erase_iff hd).1 hx
        have := h x h2.2
        omega
      rw [List.length_erase_of_mem hn] at h1
      omega
    · have := sub4 n l hd fun x hx => by
        have h1 := h x hx
        have : x ≠ n := fun e => hn (e ▸ hx)
        omega
      omega
def idx4 (x : ByteArray) : Nat := names4.findIdx (fun y => sEq x y)
theorem idx4_nm : ∀ k : _root_.Fin 4, idx4 (nm4 k.1) = k.1 := by decide +kernel
theorem GO.notes_le {s : Grp} {arr : List Int} (h : GO s arr) : s.notes.length ≤ 4 := by
  have h1 := sub4 4 (s.notes.map idx4) ?_ ?_
  · simpa using h1
  · unfold List.Nodup
    rw [List.pairwise_map]
    refine List.Pairwise.imp_of_mem ?_ h.nd
    intro a b ha hb hab e
    obtain ⟨i, hi, rfl⟩ := h.nt a ha
    obtain ⟨j, hj, rfl⟩ := h.nt b hb
    rw [idx4_nm ⟨i, hi⟩, idx4_nm ⟨j, hj⟩] at e
    exact hab (by dsimp only at e; rw [e])
  · intro x hx
    obtain ⟨y, hy, rfl⟩ := List.mem_map.1 hx
    obtain ⟨i, hi, rfl⟩ := h.nt y hy
    rw [idx4_nm ⟨i, hi⟩]; exact hi
theorem GO.gok {s : Grp} {arr : List Int} (h : GO s arr) {p : Nat} (h2 : 2 ≤ p) (hp : p < 10) : gOk s (p : Int) := by
  have := h.notes_le
  refine ⟨by omega, fun n hn => ?_⟩
  rcases h.o p h2 hp with ⟨_, h1⟩ | ⟨k, hk, _, h1⟩
  · rw [h1] at hn; cases hn
  · rw [h1] at hn
    cases hn
    obtain ⟨nb, ms, hg, _⟩ := h.g k hk
    exact ⟨_, hg⟩

theorem mget_nm4 {β : Type} {es : List (Key × β)} {k j : Nat} (hk : k < 4) (hj : j < 4) (u : β) : mget (mset es (.s (nm4 k)) u) (.s (nm4 j)) = if j = k then some u else mget es (.s (nm4 j)) := by
  by_cases hjk : j = k
  · subst hjk; rw [if_pos rfl, mget_mset (keyEq_self _)]
  · rw [if_neg hjk, mget_mset_ne (by rw [nm4_key hj hk]; simp [hjk])]
theorem mget_pid {β : Type} {es : List (Key × β)} (h : keysOk es) (a b : Int) : mget (mdel es (.i .i64 a)) (.i .i64 b) = if b = a then none else mget es (.i .i64 b) := by
  by_cases hab : b = a
  · subst hab; rw [if_pos rfl, mget_mdel h]
  · rw [if_neg hab, mget_mdel_ne (by rw [key_int]; simp [hab])]
theorem mget_pidS {β : Type} {es : List (Key × β)} (a b : Int) (u : β) : mget (mset es (.i .i64 a) u) (.i .i64 b) = if b = a then some u else mget es (.i .i64 b) := by
  by_cases hab : b = a
  · subst hab; rw [if_pos rfl, mget_mset (keyEq_self _)]
  · rw [if_neg hab, mget_mset_ne (by rw [key_int]; simp [hab])]
theorem mem_mdel {β : Type} {k : Key} {e : Key × β} : ∀ {es : List (Key × β)}, e ∈ mdel es k → e ∈ es
  | [], h => by cases h
  | (k', v') :: es, h => by
    simp only [mdel] at h
    cases hq : keyEq k k' with
    | true => simp only [hq] at h; exact List.mem_cons_of_mem _ h
    | false =>
      simp only [hq] at h
      rcases List.mem_cons.1 h with rfl | h
      · exact List.mem_cons_self
      · exact List.mem_cons_of_mem _ (mem_mdel h)
theorem mem_mset {β : Type} {k : Key} {u : β} {e : Key × β} : ∀ {es : List (Key × β)}, e ∈ mset es k u → e = (k, u) ∨ e ∈ es
  | [], h => .inl (by simpa [mset] using h)
  | (k', v') :: es, h => by
    simp only [mset] at h
    cases hq : keyEq k k' with
    | true =>
      simp only [hq] at h
      rcases List.mem_cons.1 h with rfl | h
      · exact .inl rfl
      · exact .inr (List.mem_cons_of_mem _ h)
    | false =>
      simp only [hq] at h
      rcases List.mem_cons.1 h with rfl | h
      · exact .inr List.mem_cons_self
      · rcases mem_mset h with h | h
        · exact .inl h
        · exact .inr (List.mem_cons_of_mem _ h)

/-- A member leaves. -/
theorem MO.del {arr : List Int} {k : Nat} {ms : List (Key × Unit)} (h : MO arr k ms) (hl : arr.length = 10) {p : Nat} (h2 : 2 ≤ p) (hp : p < 10) : MO (arr.set p 0) k (mdel ms (.i .i64 (p : Int))) := by
  refine ⟨keysOk_mdel h.ok, fun e he => h.key e (mem_mdel he), fun q hq2 hq => ?_⟩
  rw [mget_pid h.ok, getD_set_of hl hp, h.has q hq2 hq]
  by_cases hqp : q = p
  · subst hqp; rw [if_pos rfl, if_pos rfl, if_neg (by omega)]
  · rw [if_neg (by omega), if_neg hqp]
/-- Another group's members stay. -/
theorem MO.other {arr : List Int} {k : Nat} {ms : List (Key × Unit)} (h : MO arr k ms) (hl : arr.length = 10) {p : Nat} (hp : p < 10) {v : Int} (hv : v ≠ (k : Int) + 1) (ho : arr.getD p 0 ≠ (k : Int) + 1) : MO (arr.set p v) k ms := by
  refine ⟨h.ok, h.key, fun q hq2 hq => ?_⟩
  rw [getD_set_of hl hp, h.has q hq2 hq]
  by_cases hqp : q = p
  · subst hqp; rw [if_pos rfl, if_neg ho, if_neg hv]
  · rw [if_neg hqp]
/-- A new member. -/
theorem MO.add {arr : List Int} {k : Nat} {ms : List (Key × Unit)} (h : MO arr k ms) (hl : arr.length = 10) {p : Nat} (h2 : 2 ≤ p) (hp : p < 10) : MO (arr.set p ((k : Int) + 1)) k (mset ms (.i .i64 (p : Int)) ()) := by
  refine ⟨keysOk_mset h.ok, fun e he => ?_, fun q hq2 hq => ?_⟩
  · rcases mem_mset he with rfl | he
    · exact ⟨p, ⟨h2, hp⟩, rfl⟩
    · exact h.key e he
  · rw [mget_pidS, getD_set_of hl hp, h.has q hq2 hq]
    by_cases hqp : q = p
    · subst hqp; rw [if_pos rfl, if_pos rfl, if_pos rfl]
    · rw [if_neg (by omega), if_neg hqp]

theorem GO.gone {s : Grp} {arr : List Int} (h : GO s arr) {p : Nat} (h2 : 2 ≤ p) (hp : p < 10) (ao : Option Addr) (cap : Nat) : (gGone s (p : Int) ao cap).2 = decide (arr.getD p 0 > 0) ∧ GO (gGone s (p : Int) ao cap).1 (arr.set p 0) := by
  rcases h.o p h2 hp with ⟨h0, h1⟩ | ⟨k, hk, h0, h1⟩
  · have e : gGone s (p : Int) ao cap = (s, false) := by simp only [gGone, h1]
    rw [e, h0, set_same h0 (by rw [h.len]; exact hp)]
    exact ⟨rfl, h⟩
  · obtain ⟨nb, ms, hg, hm⟩ := h.g k hk
    have main : ∀ (nt : List ByteArray) (ao : Option Addr) (cap : Nat), nt.Nodup → (∀ x ∈ nt, ∃ k : Nat, k < 4 ∧ x = nm4 k) → GO { s with of := mdel s.of (.i .i64 (p : Int)), gs := mset s.gs (.s (nm4 k)) (nb, mdel ms (.i .i64 (p : Int))), notes := nt, ao := ao, cap := cap } (arr.set p 0) := by
      intro nt ao cap hn1 hn2
      refine ⟨by simp [h.len], keysOk_mset h.gk, fun j hj => ?_, keysOk_mdel h.ok, fun q hq2 hq => ?_, hn1, hn2⟩
      · dsimp only
        rw [mget_nm4 hk hj]
        by_cases hjk : j = k
        · subst hjk
          rw [if_pos rfl]
          exact ⟨_, _, rfl, hm.del h.len h2 hp⟩
        · obtain ⟨nb', ms', hg', hm'⟩ := h.g j hj
          rw [if_neg hjk, hg']
          exact ⟨_, _, rfl, hm'.other h.len hp (by omega) (by omega)⟩
      · dsimp only
        rw [mget_pid h.ok, getD_set_of h.len hp]
        by_cases hqp : q = p
        · subst hqp; rw [if_pos rfl, if_pos rfl]; exact .inl ⟨rfl, rfl⟩
        · rw [if_neg hqp, if_neg (by omega)]
          exact h.o q hq2 hq
    have hd : decide (arr.getD p 0 > 0) = true := decide_eq_true (by rw [h0]; omega)
    rw [hd]
    unfold gGone
    simp only [h1, hg]
    cases hc : ((mdel ms (.i .i64 (p : Int))).length == 0 && !decide (idxFrom (sEq (nm4 k)) s.notes 0 ≥ 0)) with
    | true =>
      refine ⟨rfl, main _ _ _ ?_ ?_⟩
      · simp only [Bool.and_eq_true, Bool.not_eq_true', decide_eq_false_iff_not] at hc
        rw [List.nodup_append]
        refine ⟨h.nd, by simp, fun a ha b hb => ?_⟩
        simp only [List.mem_singleton] at hb
        subst hb
        rintro rfl
        apply hc.2
        have hne : ¬ idxFrom (sEq (nm4 k)) s.notes 0 = -1 := fun e => by
          have := (idxFrom_none (sEq (nm4 k)) s.notes 0 (by omega)).1 e (nm4 k) ha
          rw [nm4_eq hk hk] at this
          simp at this
        rcases idxFrom_lt (sEq (nm4 k)) s.notes 0 with h | ⟨h, _⟩
        · exact absurd h hne
        · exact h
      · intro x hx
        rcases List.mem_append.1 hx with hx | hx
        · exact h.nt x hx
        · simp only [List.mem_singleton] at hx
          exact ⟨k, hk, hx⟩
    | false => exact ⟨rfl, main s.notes s.ao s.cap h.nd h.nt⟩

theorem GO.put {s : Grp} {arr : List Int} (h : GO s arr) {p n : Nat} (h2 : 2 ≤ p) (hp : p < 10) (hn : n < 4) (ao : Option Addr) (cap : Nat) : (gPut s (p : Int) (nm4 n) ao cap).2 = 0 ∧ GO (gPut s (p : Int) (nm4 n) ao cap).1 (arr.set p ((n : Int) + 1)) := by
  obtain ⟨nb, ms, hg, hm⟩ := h.g n hn
  have hd : decide ((p : Int) < 2) = false := by simp; omega
  unfold gPut
  simp only [hg, hd, hm.has p h2 hp]
  by_cases he : arr.getD p 0 = (n : Int) + 1
  · rw [if_pos he, set_same he (by rw [h.len]; exact hp)]
    exact ⟨rfl, h⟩
  · rw [if_neg he]
    obtain ⟨_, h1⟩ := h.gone h2 hp ao cap
    generalize (gGone s (p : Int) ao cap).1 = s1 at h1
    obtain ⟨nb1, ms1, hg1, hm1⟩ := h1.g n hn
    simp only [hg1]
    refine ⟨trivial, ?_⟩
    have hss : arr.set p ((n : Int) + 1) = (arr.set p 0).set p ((n : Int) + 1) := by rw [List.set_set]
    have hz : (arr.set p 0).getD p 0 = 0 := by rw [getD_set_of h.len hp, if_pos rfl]
    rw [hss]
    refine ⟨by simp [h.len], keysOk_mset h1.gk, fun j hj => ?_, keysOk_mset h1.ok, fun q hq2 hq => ?_, h1.nd, h1.nt⟩
    · dsimp only
      rw [mget_nm4 hn hj]
      by_cases hjn : j = n
      · subst hjn
        rw [if_pos rfl]
        exact ⟨_, _, rfl, hm1.add h1.len h2 hp⟩
      · obtain ⟨nb', ms', hg', hm'⟩ := h1.g j hj
        rw [if_neg hjn, hg']
        exact ⟨_, _, rfl, hm'.other h1.len hp (by omega) (by rw [hz]; omega)⟩
    · dsimp only
      rw [mget_pidS, getD_set_of h1.len hp]
      by_cases hqp : q = p
      · subst hqp; rw [if_pos rfl, if_pos rfl]; exact .inr ⟨n, hn, rfl, rfl⟩
      · rw [if_neg hqp, if_neg (by omega)]
        exact h1.o q hq2 hq

/-- What the array says of a group. -/
def wantL (arr : List Int) (k : Nat) : Nat → List Int
  | 0 => []
  | q + 1 => wantL arr k q ++ if arr.getD (q + 2) 0 = (k : Int) + 1 then [((q + 2 : Nat) : Int)] else []
theorem wantL_mem (arr : List Int) (k : Nat) (x : Int) : ∀ q : Nat, x ∈ wantL arr k q ↔ ∃ p : Nat, 2 ≤ p ∧ p < q + 2 ∧ x = (p : Int) ∧ arr.getD p 0 = (k : Int) + 1
  | 0 => by simp [wantL]; intros; omega
  | q + 1 => by
    rw [wantL, List.mem_append, wantL_mem arr k x q]
    constructor
    · rintro (⟨p, a, b, c, d⟩ | h)
      · exact ⟨p, a, by omega, c, d⟩
      · split at h
        · rename_i hc
          simp only [List.mem_singleton] at h
          exact ⟨q + 2, by omega, by omega, h, hc⟩
        · cases h
    · rintro ⟨p, a, b, c, d⟩
      by_cases hp : p = q + 2
      · subst hp
        right; rw [if_pos d]; simp [c]
      · exact .inl ⟨p, a, by omega, c, d⟩
theorem wantL_asc (arr : List Int) (k : Nat) : ∀ q : Nat, (wantL arr k q).Pairwise (· < ·)
  | 0 => List.Pairwise.nil
  | q + 1 => by
    rw [wantL, List.pairwise_append]
    refine ⟨wantL_asc arr k q, by split <;> simp, fun a ha b hb => ?_⟩
    obtain ⟨p, h1, h2, rfl, _⟩ := (wantL_mem arr k a q).1 ha
    split at hb
    · simp only [List.mem_singleton] at hb; subst hb; omega
    · cases hb
theorem GO.members {s : Grp} {arr : List Int} (h : GO s arr) {k : Nat} (hk : k < 4) : ∃ nb ms, mget s.gs (.s (nm4 k)) = some (nb, ms) ∧ wfI ms ∧ sortI ms = wantL arr k 8 := by
  obtain ⟨nb, ms, hg, hm⟩ := h.g k hk
  have hnd : (ms.map fun e => keyInt e.1).Nodup := by
    unfold List.Nodup
    rw [List.pairwise_map]
    refine List.Pairwise.imp_of_mem ?_ hm.ok
    intro a b ha hb hab e
    obtain ⟨p, _, e1⟩ := hm.key a ha
    obtain ⟨q, _, e2⟩ := hm.key b hb
    rw [e1, e2] at hab e
    rw [key_int] at hab
    simp only [keyInt] at e
    simp at hab
    omega
  have hperm : (ms.map fun e => keyInt e.1).Perm (wantL arr k 8) := by
    refine (List.perm_ext_iff_of_nodup hnd ((wantL_asc arr k 8).imp (by intro a b h; omega))).2 fun x => ?_
    rw [wantL_mem]
    constructor
    · intro hx
      obtain ⟨e, he, rfl⟩ := List.mem_map.1 hx
      obtain ⟨p, ⟨q1, q2⟩, e1⟩ := hm.key e he
      refine ⟨p, q1, by omega, by rw [e1]; rfl, ?_⟩
      have h1 : mget ms e.1 = some e.2 := mget_of_mem hm.ok he
      rw [e1, hm.has p q1 q2] at h1
      split at h1
      · assumption
      · cases h1
    · rintro ⟨p, q1, q2, rfl, q3⟩
      have h1 := hm.has p q1 (by omega)
      rw [if_pos q3] at h1
      obtain ⟨k', h2, h3⟩ := mget_mem h1
      refine List.mem_map.2 ⟨(k', ()), h2, ?_⟩
      obtain ⟨p', _, e1⟩ := hm.key _ h2
      dsimp only at e1
      rw [e1, key_int] at h3
      dsimp only
      rw [e1]
      simp only [keyInt]
      have : (p : Int) = p' := by simpa using h3
      omega
  have hsort : sortI ms = wantL arr k 8 := by
    unfold sortI
    rw [mergeSort_of_perm_i hperm]
    refine List.mergeSort_of_pairwise ?_
    exact (wantL_asc arr k 8).imp fun {x y} h => by simp [leI]; omega
  have hlen : ms.length ≤ 8 := by
    have h1 := sub4 8 ((ms.map fun e => keyInt e.1).map fun x => x.toNat - 2) ?_ ?_
    · simpa using h1
    · unfold List.Nodup
      rw [List.pairwise_map]
      refine List.Pairwise.imp_of_mem ?_ hnd
      intro a b ha hb hab e
      obtain ⟨p, q1, q2, rfl, _⟩ := (wantL_mem arr k a 8).1 (hperm.mem_iff.1 ha)
      obtain ⟨q, q3, q4, rfl, _⟩ := (wantL_mem arr k b 8).1 (hperm.mem_iff.1 hb)
      omega
    · intro x hx
      obtain ⟨a, ha, rfl⟩ := List.mem_map.1 hx
      obtain ⟨p, q1, q2, rfl, _⟩ := (wantL_mem arr k a 8).1 (hperm.mem_iff.1 ha)
      omega
  refine ⟨nb, ms, hg, ⟨hm.ok, by omega, fun e he => ?_⟩, hsort⟩
  obtain ⟨p, ⟨q1, q2⟩, e1⟩ := hm.key e he
  rw [e1]
  simp only [keyInt, Lit.wf, Bool.and_eq_true, decide_eq_true_eq]
  constructor
  · exact decide_eq_true (show (-9223372036854775808 : Int) ≤ _ by omega)
  · exact decide_eq_true (show _ ≤ (9223372036854775807 : Int) by omega)
end Go.Proofs.Ytihajdkipkfiiaa
