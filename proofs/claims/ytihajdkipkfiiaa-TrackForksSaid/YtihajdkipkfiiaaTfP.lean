/- TrackForks: what its calls do to the track. -/
import Derived.Test.YtihajdkipkfiiaaTfC
namespace Go.Proofs.Ytihajdkipkfiiaa
open Go Go.RowKit Go.Maps Go.Sort Go.Shelf
set_option linter.unusedVariables false
set_option linter.unusedSimpArgs false
set_option linter.unnecessarySimpa false

def nmT (w : Nat) : ByteArray := names2.extract (w - 1) w
theorem nmT_ne : nmT 1 ≠ nmT 2 := by decide +kernel
theorem nmT_12 {w v : Nat} (hw : w = 1 ∨ w = 2) (hv : v = 1 ∨ v = 2) : nmT v = nmT w ↔ v = w := by
  have := nmT_ne
  rcases hw with rfl | rfl <;> rcases hv with rfl | rfl
  · simp
  · constructor
    · intro h; exact absurd h.symm this
    · intro h; omega
  · constructor
    · intro h; exact absurd h this
    · intro h; omega
  · simp
theorem nmT_empty {w : Nat} (hw : w = 1 ∨ w = 2) : sEq (nmT w) ⟨#[]⟩ = false := by
  rcases hw with rfl | rfl <;> decide +kernel
theorem keyT_s (a b : ByteArray) : keyEq (.s a) (.s b) = decide (a = b) := by
  rw [Bool.eq_iff_iff, decide_eq_true_iff]
  exact bytes_beq a b
theorem keyT_i (a b : Int) : keyEq (.i .i64 a) (.i .i64 b) = decide (a = b) := by rw [Bool.eq_iff_iff]; simp [keyEq]
theorem mgetT_del {β : Type} {es : List (Key × β)} (h : keysOk es) (a b : Int) : mget (mdel es (.i .i64 a)) (.i .i64 b) = if b = a then none else mget es (.i .i64 b) := by
  by_cases hab : b = a
  · subst hab; rw [if_pos rfl, mget_mdel h]
  · rw [if_neg hab, mget_mdel_ne (by rw [keyT_i]; simp [hab])]
theorem mgetT_set {β : Type} {es : List (Key × β)} (a b : Int) (u : β) : mget (mset es (.i .i64 a) u) (.i .i64 b) = if b = a then some u else mget es (.i .i64 b) := by
  by_cases hab : b = a
  · subst hab; rw [if_pos rfl, mget_mset (keyEq_self _)]
  · rw [if_neg hab, mget_mset_ne (by rw [keyT_i]; simp [hab])]
theorem memT_del {β : Type} {k : Key} {e : Key × β} : ∀ {es : List (Key × β)}, e ∈ mdel es k → e ∈ es
  | [], h => by cases h
  | (k', v') :: es, h => by
    simp only [mdel] at h
    cases hq : keyEq k k' with
    | true => simp only [hq] at h; exact List.mem_cons_of_mem _ h
    | false =>
      simp only [hq] at h
      rcases List.mem_cons.1 h with rfl | h
      · exact List.mem_cons_self
      · exact List.mem_cons_of_mem _ (memT_del h)
theorem memT_set {β : Type} {k : Key} {u : β} {e : Key × β} : ∀ {es : List (Key × β)}, e ∈ mset es k u → e = (k, u) ∨ e ∈ es
  | [], h => .inl (by simpa [mset] using h)
  | (k', v') :: es, h => by
    simp only [mset] at h
    cases hq : keyEq k k' with
    | true =>
      simp only [hq] at h
      rcases List.mem_cons.1 h with rfl | h
      · exact .inl rfl
      · exact .inr (List.mem_cons_of_mem _ h)
    | false =>
      simp only [hq] at h
      rcases List.mem_cons.1 h with rfl | h
      · exact .inr List.mem_cons_self
      · rcases memT_set h with h | h
        · exact .inl h
        · exact .inr (List.mem_cons_of_mem _ h)

def psOf (s : Trk) (n : ByteArray) : List (Key × Unit) := match mget s.ps (.s n) with
  | some x => x.2
  | none => []
theorem tGone_ps {s : Trk} {pid : Int} {n : ByteArray} {x : GSet} (h : mget s.of (.i .i64 pid) = some n) (hx : mget s.ps (.s n) = some x) (hk : keysOk s.ps) :
    (tGone s pid).2 = (n, 0) ∧ (tGone s pid).1.of = mdel s.of (.i .i64 pid) ∧ keysOk (tGone s pid).1.ps ∧ ∀ m, psOf (tGone s pid).1 m = if m = n then mdel x.2 (.i .i64 pid) else psOf s m := by
  unfold tGone
  simp only [h, hx]
  cases hl : (mdel x.2 (.i .i64 pid)).length == 0 with
  | true =>
    refine ⟨rfl, rfl, keysOk_mdel hk, fun m => ?_⟩
    unfold psOf
    dsimp only
    by_cases hm : m = n
    · subst hm
      rw [mget_mdel hk, if_pos rfl]
      exact (List.eq_nil_of_length_eq_zero (by simpa using hl)).symm
    · rw [if_neg hm, mget_mdel_ne (by rw [keyT_s]; simp [hm])]
  | false =>
    refine ⟨rfl, rfl, keysOk_mset hk, fun m => ?_⟩
    unfold psOf
    dsimp only
    by_cases hm : m = n
    · subst hm
      rw [mget_mset (keyEq_self _), if_pos rfl]
    · rw [if_neg hm, mget_mset_ne (by rw [keyT_s]; simp [hm])]
theorem tPut_ps (s : Trk) (n : ByteArray) (pid : Int) (nb : Nat) (hk : keysOk s.ps) : (tPut s n pid nb).of = mset s.of (.i .i64 pid) n ∧ keysOk (tPut s n pid nb).ps ∧ ∀ m, psOf (tPut s n pid nb) m = if m = n then mset (psOf s n) (.i .i64 pid) () else psOf s m := by
  unfold tPut
  cases hx : mget s.ps (.s n) with
  | none =>
    refine ⟨rfl, keysOk_mset hk, fun m => ?_⟩
    unfold psOf
    dsimp only
    by_cases hm : m = n
    · subst hm
      rw [mget_mset (keyEq_self _), if_pos rfl, hx]
      rfl
    · rw [if_neg hm, mget_mset_ne (by rw [keyT_s]; simp [hm])]
  | some x =>
    refine ⟨rfl, keysOk_mset hk, fun m => ?_⟩
    unfold psOf
    dsimp only
    by_cases hm : m = n
    · subst hm
      rw [mget_mset (keyEq_self _), if_pos rfl, hx]
    · rw [if_neg hm, mget_mset_ne (by rw [keyT_s]; simp [hm])]

/-- One unit's processes: those of the row. -/
structure MT (ofl : List Int) (w : Nat) (ms : List (Key × Unit)) : Prop where
  ok : keysOk ms
  key : ∀ e ∈ ms, ∃ p : Nat, (2 ≤ p ∧ p < ofl.length) ∧ e.1 = .i .i64 (p : Int)
  has : ∀ p : Nat, 2 ≤ p → p < ofl.length → mget ms (.i .i64 (p : Int)) = if ofl.getD p 0 = (w : Int) then some () else none
/-- What stands in the track. -/
structure TI9 (s : Trk) (ofl : List Int) : Prop where
  l3 : 3 ≤ ofl.length
  ok : keysOk s.of
  pk : keysOk s.ps
  o : ∀ k : Nat, 2 ≤ k → k < ofl.length → (ofl.getD k 0 = 0 ∧ mget s.of (.i .i64 (k : Int)) = none) ∨ ∃ w : Nat, (w = 1 ∨ w = 2) ∧ ofl.getD k 0 = (w : Int) ∧ mget s.of (.i .i64 (k : Int)) = some (nmT w)
  no : ∀ k : Nat, ofl.length ≤ k → mget s.of (.i .i64 (k : Int)) = none
  p : ∀ w : Nat, w = 1 ∨ w = 2 → MT ofl w (psOf s (nmT w))
theorem TI9.there {s : Trk} {ofl : List Int} (h : TI9 s ofl) {k w : Nat} (h2 : 2 ≤ k) (hk : k < ofl.length) (hw : w = 1 ∨ w = 2) (ho : ofl.getD k 0 = (w : Int)) : ∃ x, mget s.ps (.s (nmT w)) = some x ∧ psOf s (nmT w) = x.2 := by
  have h1 := (h.p w hw).has k h2 hk
  rw [if_pos ho] at h1
  unfold psOf at h1 ⊢
  cases hx : mget s.ps (.s (nmT w)) with
  | none => rw [hx] at h1; cases h1
  | some x => exact ⟨x, rfl, rfl⟩
theorem TI9.tok {s : Trk} {ofl : List Int} (h : TI9 s ofl) {k : Nat} (h2 : 2 ≤ k) (hk : k < ofl.length) : tOk s (k : Int) := by
  intro n hn
  rcases h.o k h2 hk with ⟨_, h1⟩ | ⟨w, hw, ho, h1⟩
  · rw [h1] at hn; cases hn
  · rw [h1] at hn
    cases hn
    obtain ⟨x, hx, _⟩ := h.there h2 hk hw ho
    exact ⟨x, hx⟩
theorem getT_set {ofl : List Int} {p q : Nat} (hp : p < ofl.length) (v : Int) : (ofl.set p v).getD q 0 = if q = p then v else ofl.getD q 0 := by
  rw [List.getD, List.getElem?_set]
  by_cases h : q = p
  · subst h; simp [hp]
  · have : ¬ p = q := fun e => h e.symm
    simp [h, this, List.getD]
theorem getT_app {ofl : List Int} (v : Int) (q : Nat) (hq : q < ofl.length + 1) : (ofl ++ [v]).getD q 0 = if q = ofl.length then v else ofl.getD q 0 := by
  by_cases h : q = ofl.length
  · subst h; simp [List.getD]
  · rw [if_neg h, List.getD, List.getElem?_append_left (by omega), List.getD]
theorem TI9.gone {s : Trk} {ofl : List Int} (h : TI9 s ofl) {k : Nat} (h2 : 2 ≤ k) (hk : k < ofl.length) : ((tGone s (k : Int)).2.2 == 0) = decide (ofl.getD k 0 > 0) ∧ TI9 (tGone s (k : Int)).1 (ofl.set k 0) ∧ (ofl.getD k 0 = 0 ∨ ∃ w : Nat, (w = 1 ∨ w = 2) ∧ ofl.getD k 0 = (w : Int) ∧ (tGone s (k : Int)).2.1 = nmT w) := by
  rcases h.o k h2 hk with ⟨h0, h1⟩ | ⟨w, hw, ho, h1⟩
  · have e : tGone s (k : Int) = (s, ⟨#[]⟩, 190) := by simp only [tGone, h1]
    have hs : ofl.set k 0 = ofl := by
      refine List.ext_getElem? fun i => ?_
      rw [List.getElem?_set]
      split
      · rename_i e; subst e
        rw [← h0, List.getD, List.getElem?_eq_getElem hk]; simp [hk]
      · rfl
    rw [e, h0, hs]
    exact ⟨rfl, h, .inl rfl⟩
  · obtain ⟨x, hx, hxp⟩ := h.there h2 hk hw ho
    obtain ⟨e2, e3, e4, e5⟩ := tGone_ps h1 hx h.pk
    have hd : decide (ofl.getD k 0 > 0) = true := decide_eq_true (by rw [ho]; omega)
    refine ⟨by rw [e2, hd]; rfl, ?_, .inr ⟨w, hw, ho, by rw [e2]⟩⟩
    refine ⟨by simp; exact h.l3, by rw [e3]; exact keysOk_mdel h.ok, e4, fun j hj2 hj => ?_, fun j hj => ?_, fun v hv => ?_⟩
    · have hj : j < ofl.length := by simpa using hj
      rw [e3, mgetT_del h.ok, getT_set hk]
      by_cases hjk : j = k
      · subst hjk; rw [if_pos rfl, if_pos rfl]; exact .inl ⟨rfl, rfl⟩
      · rw [if_neg hjk, if_neg (by omega)]; exact h.o j hj2 hj
    · have hj : ofl.length ≤ j := by simpa using hj
      rw [e3, mgetT_del h.ok, if_neg (by omega)]
      exact h.no j hj
    · rw [e5]
      have hm := h.p v hv
      by_cases hvw : v = w
      · subst hvw
        rw [if_pos rfl]
        rw [hxp] at hm
        refine ⟨keysOk_mdel hm.ok, fun e he => ?_, fun q hq2 hq => ?_⟩
        · obtain ⟨p, hp, e⟩ := hm.key e (memT_del he)
          exact ⟨p, ⟨hp.1, by simpa using hp.2⟩, e⟩
        · have hq : q < ofl.length := by simpa using hq
          rw [mgetT_del hm.ok, getT_set hk, hm.has q hq2 hq]
          by_cases hqk : q = k
          · subst hqk; rw [if_pos rfl, if_pos rfl, if_neg (by omega)]
          · rw [if_neg (by omega), if_neg hqk]
      · rw [if_neg (fun e => hvw ((nmT_12 hw hv).1 e))]
        refine ⟨hm.ok, fun e he => ?_, fun q hq2 hq => ?_⟩
        · obtain ⟨p, hp, e⟩ := hm.key e he
          exact ⟨p, ⟨hp.1, by simpa using hp.2⟩, e⟩
        · have hq : q < ofl.length := by simpa using hq
          rw [getT_set hk, hm.has q hq2 hq]
          by_cases hqk : q = k
          · subst hqk; rw [if_pos rfl, ho, if_neg (by omega), if_neg (by omega)]
          · rw [if_neg hqk]
theorem TI9.fork {s : Trk} {ofl : List Int} (h : TI9 s ofl) {k : Nat} (h2 : 2 ≤ k) (hk : k < ofl.length) (nb : Nat) : ((tFork s (k : Int) (ofl.length : Int) nb).2 == 0) = decide (ofl.getD k 0 > 0) ∧ TI9 (tFork s (k : Int) (ofl.length : Int) nb).1 (ofl ++ [ofl.getD k 0]) := by
  have hno := h.no ofl.length (Nat.le_refl _)
  have h3 := h.l3
  rcases h.o k h2 hk with ⟨h0, h1⟩ | ⟨w, hw, ho, h1⟩
  · have e : tFork s (k : Int) (ofl.length : Int) nb = (s, 190) := by simp only [tFork, h1]
    rw [e, h0]
    refine ⟨rfl, by simp; omega, h.ok, h.pk, fun j hj2 hj => ?_, fun j hj => ?_, fun v hv => ?_⟩
    · have hj : j < ofl.length + 1 := by simpa using hj
      rw [getT_app _ _ hj]
      by_cases hjl : j = ofl.length
      · subst hjl; rw [if_pos rfl]; exact .inl ⟨rfl, hno⟩
      · rw [if_neg hjl]; exact h.o j hj2 (by omega)
    · have hj : ofl.length + 1 ≤ j := by simpa using hj
      exact h.no j (by omega)
    · have hm := h.p v hv
      refine ⟨hm.ok, fun e he => ?_, fun q hq2 hq => ?_⟩
      · obtain ⟨p, hp, e⟩ := hm.key e he
        exact ⟨p, ⟨hp.1, by simp; omega⟩, e⟩
      · have hq : q < ofl.length + 1 := by simpa using hq
        rw [getT_app _ _ hq]
        by_cases hql : q = ofl.length
        · subst hql
          rw [if_pos rfl, if_neg (by omega), mget_none_iff]
          intro e he
          obtain ⟨p, hp, e1⟩ := hm.key e he
          rw [e1, keyT_i]
          simp; omega
        · rw [if_neg hql]; exact hm.has q hq2 (by omega)
  · have e : tFork s (k : Int) (ofl.length : Int) nb = (tPut s (nmT w) (ofl.length : Int) nb, 0) := by
      have hd : decide ((ofl.length : Int) < 2) = false := decide_eq_false (by omega)
      simp only [tFork, h1, tAdd, hno, nmT_empty hw, hd, Option.isSome_none, Bool.or_self]
    obtain ⟨e3, e4, e5⟩ := tPut_ps s (nmT w) (ofl.length : Int) nb h.pk
    have hd : decide (ofl.getD k 0 > 0) = true := decide_eq_true (by rw [ho]; omega)
    rw [e, ho]
    refine ⟨by rw [← ho, hd]; rfl, by simp; omega, by rw [e3]; exact keysOk_mset h.ok, e4, fun j hj2 hj => ?_, fun j hj => ?_, fun v hv => ?_⟩
    · have hj : j < ofl.length + 1 := by simpa using hj
      rw [getT_app _ _ hj, e3, mgetT_set]
      by_cases hjl : j = ofl.length
      · subst hjl; rw [if_pos rfl, if_pos rfl]; exact .inr ⟨w, hw, rfl, rfl⟩
      · rw [if_neg hjl, if_neg (by omega)]; exact h.o j hj2 (by omega)
    · have hj : ofl.length + 1 ≤ j := by simpa using hj
      rw [e3, mgetT_set, if_neg (by omega)]
      exact h.no j (by omega)
    · rw [e5]
      have hm := h.p v hv
      by_cases hvw : v = w
      · subst hvw
        rw [if_pos rfl]
        refine ⟨keysOk_mset hm.ok, fun e he => ?_, fun q hq2 hq => ?_⟩
        · rcases memT_set he with rfl | he
          · exact ⟨ofl.length, ⟨by omega, by simp⟩, rfl⟩
          · obtain ⟨p, hp, e⟩ := hm.key e he
            exact ⟨p, ⟨hp.1, by simp; omega⟩, e⟩
        · have hq : q < ofl.length + 1 := by simpa using hq
          rw [mgetT_set, getT_app _ _ hq]
          by_cases hql : q = ofl.length
          · subst hql; rw [if_pos rfl, if_pos rfl, if_pos rfl]
          · rw [if_neg (by omega), if_neg hql]; exact hm.has q hq2 (by omega)
      · rw [if_neg (fun e => hvw ((nmT_12 hw hv).1 e))]
        refine ⟨hm.ok, fun e he => ?_, fun q hq2 hq => ?_⟩
        · obtain ⟨p, hp, e⟩ := hm.key e he
          exact ⟨p, ⟨hp.1, by simp; omega⟩, e⟩
        · have hq : q < ofl.length + 1 := by simpa using hq
          rw [getT_app _ _ hq]
          by_cases hql : q = ofl.length
          · subst hql
            rw [if_pos rfl, if_neg (by omega), mget_none_iff]
            intro e he
            obtain ⟨p, hp, e1⟩ := hm.key e he
            rw [e1, keyT_i]
            simp; omega
          · rw [if_neg hql]; exact hm.has q hq2 (by omega)

/-- What the row says of a unit. -/
def wantT (ofl : List Int) (w : Nat) : Nat → List Int
  | 0 => []
  | q + 1 => wantT ofl w q ++ if ofl.getD (q + 2) 0 = (w : Int) then [((q + 2 : Nat) : Int)] else []
theorem wantT_len (ofl : List Int) (w : Nat) : ∀ n, (wantT ofl w n).length ≤ n
  | 0 => Nat.le_refl _
  | n + 1 => by
    have := wantT_len ofl w n
    rw [wantT, List.length_append]
    split <;> simp <;> omega
theorem wantT_mem (ofl : List Int) (w : Nat) (x : Int) : ∀ q : Nat, x ∈ wantT ofl w q ↔ ∃ p : Nat, 2 ≤ p ∧ p < q + 2 ∧ x = (p : Int) ∧ ofl.getD p 0 = (w : Int)
  | 0 => by simp [wantT]; intros; omega
  | q + 1 => by
    rw [wantT, List.mem_append, wantT_mem ofl w x q]
    constructor
    · rintro (⟨p, a, b, c, d⟩ | h)
      · exact ⟨p, a, by omega, c, d⟩
      · split at h
        · rename_i hc
          simp only [List.mem_singleton] at h
          exact ⟨q + 2, by omega, by omega, h, hc⟩
        · cases h
    · rintro ⟨p, a, b, c, d⟩
      by_cases hp : p = q + 2
      · subst hp
        right; rw [if_pos d]; simp [c]
      · exact .inl ⟨p, a, by omega, c, d⟩
theorem wantT_asc (ofl : List Int) (w : Nat) : ∀ q : Nat, (wantT ofl w q).Pairwise (· < ·)
  | 0 => List.Pairwise.nil
  | q + 1 => by
    rw [wantT, List.pairwise_append]
    refine ⟨wantT_asc ofl w q, by split <;> simp, fun a ha b hb => ?_⟩
    obtain ⟨p, h1, h2, rfl, _⟩ := (wantT_mem ofl w a q).1 ha
    split at hb
    · simp only [List.mem_singleton] at hb; subst hb; omega
    · cases hb
theorem TI9.pids {s : Trk} {ofl : List Int} (h : TI9 s ofl) (hn : ofl.length ≤ 1000) {w : Nat} (hw : w = 1 ∨ w = 2) : pidsOk s (nmT w) ∧ pidsL s (nmT w) = wantT ofl w (ofl.length - 2) := by
  have hm := h.p w hw
  have h3 := h.l3
  generalize hms : psOf s (nmT w) = ms at hm
  have hnd : (ms.map fun e => keyInt e.1).Nodup := by
    unfold List.Nodup
    rw [List.pairwise_map]
    refine List.Pairwise.imp_of_mem ?_ hm.ok
    intro a b ha hb hab e
    obtain ⟨p, _, e1⟩ := hm.key a ha
    obtain ⟨q, _, e2⟩ := hm.key b hb
    rw [e1, e2] at hab e
    rw [keyT_i] at hab
    simp only [keyInt] at e
    simp at hab
    omega
  have hperm : (ms.map fun e => keyInt e.1).Perm (wantT ofl w (ofl.length - 2)) := by
    refine (List.perm_ext_iff_of_nodup hnd ((wantT_asc ofl w _).imp (by intro a b h; omega))).2 fun x => ?_
    rw [wantT_mem]
    constructor
    · intro hx
      obtain ⟨e, he, rfl⟩ := List.mem_map.1 hx
      obtain ⟨p, ⟨q1, q2⟩, e1⟩ := hm.key e he
      refine ⟨p, q1, by omega, by rw [e1]; rfl, ?_⟩
      have h1 : mget ms e.1 = some e.2 := mget_of_mem hm.ok he
      rw [e1, hm.has p q1 q2] at h1
      split at h1
      · assumption
      · cases h1
    · rintro ⟨p, q1, q2, rfl, q3⟩
      have h1 := hm.has p q1 (by omega)
      rw [if_pos q3] at h1
      obtain ⟨k', h2, h3⟩ := mget_mem h1
      refine List.mem_map.2 ⟨(k', ()), h2, ?_⟩
      obtain ⟨p', _, e1⟩ := hm.key _ h2
      dsimp only at e1
      rw [e1, keyT_i] at h3
      dsimp only
      rw [e1]
      simp only [keyInt]
      have : (p : Int) = p' := by simpa using h3
      omega
  have hsort : sortI ms = wantT ofl w (ofl.length - 2) := by
    unfold sortI
    rw [mergeSort_of_perm_i hperm]
    refine List.mergeSort_of_pairwise ?_
    exact (wantT_asc ofl w _).imp fun {x y} h => by simp [leI]; omega
  have hlen : ms.length ≤ 1000 := by
    have := hperm.length_eq
    have h2 := wantT_len ofl w (ofl.length - 2)
    simp at this
    omega
  have hwf : wfI ms := by
    refine ⟨hm.ok, by omega, fun e he => ?_⟩
    obtain ⟨p, ⟨q1, q2⟩, e1⟩ := hm.key e he
    rw [e1]
    simp only [keyInt, Lit.wf, Bool.and_eq_true, decide_eq_true_eq]
    constructor
    · exact decide_eq_true (show (-9223372036854775808 : Int) ≤ _ by omega)
    · exact decide_eq_true (show _ ≤ (9223372036854775807 : Int) by omega)
  unfold psOf at hms
  unfold pidsOk pidsL
  cases hx : mget s.ps (.s (nmT w)) with
  | none =>
    rw [hx] at hms
    dsimp only at hms
    subst hms
    refine ⟨fun x hx => (by cases hx), ?_⟩
    rw [← hsort]
    simp [sortI]
  | some x =>
    rw [hx] at hms
    dsimp only at hms
    subst hms
    exact ⟨fun y hy => (by cases hy; exact hwf), hsort⟩
def of0 : List Int := [0, 0, 1, 2]
theorem TI9.start (bo bp n0 n1 : Nat) : TI9 ⟨bo, bp, [(.i .i64 2, ⟨#[97]⟩), (.i .i64 3, ⟨#[98]⟩)], [(.s ⟨#[97]⟩, n0, [(.i .i64 2, ())]), (.s ⟨#[98]⟩, n1, [(.i .i64 3, ())])]⟩ of0 := by
  have e1 : nmT 1 = ⟨#[97]⟩ := by decide +kernel
  have e2 : nmT 2 = ⟨#[98]⟩ := by decide +kernel
  refine ⟨by decide, ?_, ?_, fun k h2 hk => ?_, fun k hk => ?_, fun w hw => ?_⟩
  · exact keysOk_mset (k := .i .i64 3) (u := (⟨#[98]⟩ : ByteArray)) (keysOk_mset (k := .i .i64 2) (u := (⟨#[97]⟩ : ByteArray)) (es := []) List.Pairwise.nil)
  · exact keysOk_mset (k := .s ⟨#[98]⟩) (u := ((n1, [(.i .i64 3, ())]) : GSet)) (keysOk_mset (k := .s ⟨#[97]⟩) (u := ((n0, [(.i .i64 2, ())]) : GSet)) (es := []) List.Pairwise.nil)
  · have hk : k < 4 := hk
    match k, h2, hk with
    | 2, _, _ => exact .inr ⟨1, .inl rfl, rfl, by rw [e1]; rfl⟩
    | 3, _, _ => exact .inr ⟨2, .inr rfl, rfl, by rw [e2]; rfl⟩
  · have hk : 4 ≤ k := hk
    rw [mget_none_iff]
    intro e he
    simp only [List.mem_cons, List.not_mem_nil, or_false] at he
    rcases he with rfl | rfl
    · rw [keyT_i]; simp; omega
    · rw [keyT_i]; simp; omega
  · have main : ∀ (q : Nat) (v : Nat), (q = 2 ∧ v = 1) ∨ (q = 3 ∧ v = 2) → MT of0 v [(.i .i64 (q : Int), ())] := fun q v hqv => by
      refine ⟨List.pairwise_singleton _ _, fun e he => ?_, fun p h2 hp => ?_⟩
      · simp only [List.mem_singleton] at he
        subst he
        refine ⟨q, ⟨by omega, ?_⟩, rfl⟩
        show q < 4
        omega
      · have hp : p < 4 := hp
        rcases hqv with ⟨rfl, rfl⟩ | ⟨rfl, rfl⟩
        · match p, h2, hp with
          | 2, _, _ => rfl
          | 3, _, _ => rfl
        · match p, h2, hp with
          | 2, _, _ => rfl
          | 3, _, _ => rfl
    rcases hw with rfl | rfl
    · rw [e1]; exact main 2 1 (.inl ⟨rfl, rfl⟩)
    · rw [e2]; exact main 3 2 (.inr ⟨rfl, rfl⟩)
end Go.Proofs.Ytihajdkipkfiiaa
