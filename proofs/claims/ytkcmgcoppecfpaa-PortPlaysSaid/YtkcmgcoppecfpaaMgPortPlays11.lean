import Derived.Test.YtkcmgcoppecfpaaMgPortPlays10
import Derived.Test.YtkcmgcoppecfpaaMgPortPlays9
import Derived.Test.YtkcmgcoppecfpaaMgPortPlays8
import Derived.Test.YtkcmgcoppecfpaaMgPortPlays6
set_option linter.unusedVariables false
set_option linter.unusedSimpArgs false
set_option linter.unnecessarySimpa false
set_option maxHeartbeats 0
set_option maxRecDepth 100000
/- Ports: what their methods do. -/
namespace Go.Proofs.Ytkcmgcoppecfpaa
open Go Go.RowKit
theorem hmPl : Try.prog.follows .mixedOrders = true := by kernel_rfl
theorem mget_skB (k : Key) : ∀ es : List (Key × Sk), mget (es.map skB) k = (mget es k).map (·.b)
  | [] => rfl
  | (k', v) :: es => by
    have ih := mget_skB k es
    simp only [List.map_cons, skB, mget] at ih ⊢
    cases keyEq k k' with
    | true => rfl
    | false => exact ih
theorem mset_skB (k : Key) (u : Sk) : ∀ es : List (Key × Sk), mset (es.map skB) k u.b = (mset es k u).map skB
  | [] => rfl
  | (k', v) :: es => by
    have ih := mset_skB k u es
    simp only [List.map_cons, skB, mset] at ih ⊢
    cases keyEq k k' with
    | true => rfl
    | false => simp only [List.map_cons, skB]; rw [ih]
theorem mdel_skB (k : Key) : ∀ es : List (Key × Sk), mdel (es.map skB) k = (mdel es k).map skB
  | [] => rfl
  | (k', v) :: es => by
    have ih := mdel_skB k es
    simp only [List.map_cons, skB, mdel] at ih ⊢
    cases keyEq k k' with
    | true => rfl
    | false => simp only [List.map_cons, skB]; rw [ih]
theorem sk_split {s : PS} {n : ByteArray} {x : Sk} (h : mget s.sk (.s n) = some x) : ∃ l1 l2, s.sk = l1 ++ (.s n, x) :: l2 ∧ (∀ u, mset s.sk (.s n) u = l1 ++ (.s n, u) :: l2) ∧ mdel s.sk (.s n) = l1 ++ l2 := by
  obtain ⟨l1, l2, k', h1, h2, _, h3, h4⟩ := mget_split h
  rw [keyEq_s h2] at h1
  exact ⟨l1, l2, h1, h3, h4⟩
section
variable {W w : World} {F : List Ch} {s : PS} {b : Nat} {n : ByteArray} {x : Sk} {l1 l2 : List (Key × Sk)}
theorem ps_open (hs : s.sk = l1 ++ (.s n, x) :: l2) (hr : Rep W F (psE s b) w) : Rep W F [⟨.blk b, .cells [.map 1 s.bm, .vec 2 s.aoD s.ds.length s.capD, .int .i64 s.last] 131⟩, ⟨.blk s.bm, .mapL none encPq (s.sk.map skB)⟩, ⟨.sl s.aoD s.capD, .vecL 49 2 encDN s.ds DN.zero⟩, ⟨.blk x.b, .cells [.vec 4 x.ao x.cs.length x.cap] 135⟩, ⟨.sl x.ao x.cap, .vecL 41 2 encCN x.cs CN.zero⟩, pk 0 (l1.map skE ++ l2.map skE)] w := by
  have e : s.sk.map skE = l1.map skE ++ skE (.s n, x) :: l2.map skE := by rw [hs]; simp
  unfold psE at hr
  rw [e] at hr
  have h1 := Rep.outP (p := [_, _, _]) (t := []) hr
  exact Rep.unpkAt (p := [_, _, _]) (h := skEs x) (t := [_]) h1
theorem ps_close {a1 a2 a3 : Ent} {t : List Ent} (hr : Rep W F (a1 :: a2 :: a3 :: ⟨.blk x.b, .cells [.vec 4 x.ao x.cs.length x.cap] 135⟩ :: ⟨.sl x.ao x.cap, .vecL 41 2 encCN x.cs CN.zero⟩ :: pk 0 (l1.map skE ++ l2.map skE) :: t) w) : Rep W F (a1 :: a2 :: a3 :: pk 0 ((l1 ++ (.s n, x) :: l2).map skE) :: t) w := by
  have h1 := Rep.pkAt 0 (p := [a1, a2, a3]) (h := skEs x) (t := _ :: t) hr
  have h2 := Rep.intoP (p := [a1, a2, a3]) (t := t) (e := skE (.s n, x)) h1
  have e : (l1 ++ (.s n, x) :: l2).map skE = l1.map skE ++ skE (.s n, x) :: l2.map skE := by simp
  rw [e]; exact h2
theorem ps_back {r0 : Option SV} {t : List Ent} (hs : s.sk = l1 ++ (.s n, x) :: l2) (hr : Rep W F (⟨.blk b, .cells [.map 1 s.bm, .vec 2 s.aoD s.ds.length s.capD, .int .i64 s.last] 131⟩ :: ⟨.blk s.bm, .map1 none encPq (s.sk.map skB) (.s n) r0⟩ :: ⟨.sl s.aoD s.capD, .vecL 49 2 encDN s.ds DN.zero⟩ :: ⟨.blk x.b, .cells [.vec 4 x.ao x.cs.length x.cap] 135⟩ :: ⟨.sl x.ao x.cap, .vecL 41 2 encCN x.cs CN.zero⟩ :: pk 0 (l1.map skE ++ l2.map skE) :: t) w) : Rep W F (psE s b ++ t) w := by
  have h1 := Rep.forget1 (l := 1) rfl hr
  have h2 := ps_close (n := n) h1
  rw [← hs] at h2
  exact h2
theorem ps_back0 {r0 : Option SV} {t : List Ent} (hr : Rep W F (⟨.blk b, .cells [.map 1 s.bm, .vec 2 s.aoD s.ds.length s.capD, .int .i64 s.last] 131⟩ :: ⟨.blk s.bm, .map1 none encPq (s.sk.map skB) (.s n) r0⟩ :: ⟨.sl s.aoD s.capD, .vecL 49 2 encDN s.ds DN.zero⟩ :: pk 0 (s.sk.map skE) :: t) w) : Rep W F (psE s b ++ t) w := Rep.forget1 (l := 1) rfl hr
theorem ps_set {r0 : Option SV} {t : List Ent} {ao : Option Addr} {cap : Nat} {cs : List CN} {la : Int} (hs : s.sk = l1 ++ (.s n, x) :: l2) (hset : ∀ u, mset s.sk (.s n) u = l1 ++ (.s n, u) :: l2)
    (hr : Rep W F (⟨.blk b, .cells [.map 1 s.bm, .vec 2 s.aoD s.ds.length s.capD, .int .i64 la] 131⟩ :: ⟨.blk s.bm, .map1 none encPq (s.sk.map skB) (.s n) r0⟩ :: ⟨.sl s.aoD s.capD, .vecL 49 2 encDN s.ds DN.zero⟩ :: ⟨.blk x.b, .cells [.vec 4 ao cs.length cap] 135⟩ :: ⟨.sl ao cap, .vecL 41 2 encCN cs CN.zero⟩ :: pk 0 (l1.map skE ++ l2.map skE) :: t) w) :
    Rep W F (psE { s with sk := mset s.sk (.s n) ⟨x.b, ao, cap, cs⟩, last := la } b) w := by
  have h1 := Rep.forget1 (l := 1) rfl hr
  have h2 := ps_close (n := n) (x := ⟨x.b, ao, cap, cs⟩) h1
  have e : (mset s.sk (.s n) ⟨x.b, ao, cap, cs⟩).map skB = s.sk.map skB := by rw [hset, hs]; simp [skB]
  unfold psE
  dsimp only
  rw [e, hset]
  exact Rep.dropR (h := [_, _, _, _]) h2
theorem ps_new {r0 : Option SV} {nb : Nat} {t : List Ent} (hn : mget s.sk (.s n) = none) (hr : Rep W F [⟨.blk b, .cells [.map 1 s.bm, .vec 2 s.aoD s.ds.length s.capD, .int .i64 s.last] 131⟩, ⟨.blk s.bm, .map1 none encPq (mset (s.sk.map skB) (.s n) nb) (.s n) r0⟩, ⟨.sl s.aoD s.capD, .vecL 49 2 encDN s.ds DN.zero⟩, pk 0 (s.sk.map skE), ⟨.blk nb, .cells [.raw (.slice none 0 0)] 135⟩] w) :
    Rep W F (psE { s with sk := mset s.sk (.s n) ⟨nb, none, 0, []⟩ } b) w := by
  have h1 := Rep.forget1 (l := 1) rfl hr
  have h2 := Rep.nilvec 41 (sz := 2) (enc := encCN) CN.zero (fun _ => rfl) h1
  have h3 := Rep.cellsEq (l := 4) (cs' := [.vec 4 none 0 0]) rfl (by rfl) h2
  have h4 := Rep.pkAt 0 (p := [_, _, _, _]) (h := skEs ⟨nb, none, 0, []⟩) (t := []) h3
  have h5 := Rep.pick (π := [0, 1, 2, 4, 3]) (by decide) rfl h4
  have h6 := Rep.intoNewP (p := [_, _, _]) (t := []) h5
  have e := mset_skB (.s n) ⟨nb, none, 0, []⟩ s.sk
  dsimp only at e
  rw [e] at h6
  unfold psE
  dsimp only
  rw [mset_none hn] at h6 ⊢
  have e2 : (s.sk ++ [(Key.s n, (⟨nb, none, 0, []⟩ : Sk))]).map skE = s.sk.map skE ++ [pk 0 (skEs ⟨nb, none, 0, []⟩)] := by simp [skE]
  rw [e2]
  exact h6
theorem ps_del {t : List Ent} (hs : s.sk = l1 ++ (.s n, x) :: l2) (hd : mdel s.sk (.s n) = l1 ++ l2) (hr : Rep W F (⟨.blk b, .cells [.map 1 s.bm, .vec 2 s.aoD s.ds.length s.capD, .int .i64 s.last] 131⟩ :: ⟨.blk s.bm, .mapL none encPq (mdel (s.sk.map skB) (.s n))⟩ :: ⟨.sl s.aoD s.capD, .vecL 49 2 encDN s.ds DN.zero⟩ :: ⟨.blk x.b, .cells [.vec 4 x.ao x.cs.length x.cap] 135⟩ :: ⟨.sl x.ao x.cap, .vecL 41 2 encCN x.cs CN.zero⟩ :: pk 0 (l1.map skE ++ l2.map skE) :: t) w) : Rep W F (psE { s with sk := mdel s.sk (.s n) } b) w := by
  have h1 := Rep.pick (π := [0, 1, 2, 5]) (by decide) rfl hr
  unfold psE
  dsimp only
  rw [mdel_skB] at h1
  have e : (mdel s.sk (.s n)).map skE = l1.map skE ++ l2.map skE := by rw [hd]; simp
  rw [e]
  exact h1
end
theorem pLi_ok : CtrOk Try.prog 12 (adtC psE plistenM) := adt_ok fun b s rest N h => by
  unfold plistenM at h
  split at h
  case h_2 => exact h.elim
  rename_i n
  obtain ⟨ho, h⟩ := h
  cases hx : mget s.sk (.s n) with
  | none =>
    refine Spec.pre (hs' := [⟨.blk b, .cells [.map 1 s.bm, .vec 2 s.aoD s.ds.length s.capD, .int .i64 s.last] 131⟩, ⟨.blk s.bm, .map1 none encPq (s.sk.map skB) (.s n) none⟩, ⟨.sl s.aoD s.capD, .vecL 49 2 encDN s.ds DN.zero⟩, pk 0 (s.sk.map skE)]) (fun W F w hr => Rep.know1 (l := 1) (.s n) none rfl rfl (by rw [mget_skB, hx]; rfl) hr) rfl ?_
    refine Spec.of_G 26 Try.func12 (c := bodyOf Try.f12) (by kernel_rfl) (by kernel_rfl) (Nat.le_of_ble_eq_true rfl) fun W F => ?_
    refine G_run (kc := true) (ss := []) (Cs := []) trivial hmPl 600 ?_
    rw [pli_none]
    simp only [pListen, hx] at h
    cases he : sEq n ⟨#[]⟩ with
    | true =>
      simp only [he] at h
      exact ⟨s, fun W F w hr => Rep.dropR (ps_back0 hr), h 0⟩
    | false =>
      simp only [he] at h
      repeat' first
        | exact rfl
        | exact trivial
        | exact HEq.rfl
        | (refine fun b1 => ?_)
        | (refine ⟨_, rfl, ?_⟩)
        | exact ⟨_, fun W F w hr => ps_new (t := []) hx hr, h _⟩
        | apply And.intro
        | (show _ ≤ _; omega)
        | (show _ < _; omega)
        | fail
  | some x =>
    obtain ⟨l1, l2, hs, hset, hdel⟩ := sk_split hx
    have hcl : x.cs.length ≤ 100 := ho.cl (.s n, x) (by rw [hs]; simp)
    refine Spec.pre (hs' := [⟨.blk b, .cells [.map 1 s.bm, .vec 2 s.aoD s.ds.length s.capD, .int .i64 s.last] 131⟩, ⟨.blk s.bm, .map1 none encPq (s.sk.map skB) (.s n) (some (.ptr 3 x.b 0))⟩, ⟨.sl s.aoD s.capD, .vecL 49 2 encDN s.ds DN.zero⟩, ⟨.blk x.b, .cells [.vec 4 x.ao x.cs.length x.cap] 135⟩, ⟨.sl x.ao x.cap, .vecL 41 2 encCN x.cs CN.zero⟩, pk 0 (l1.map skE ++ l2.map skE)]) (fun W F w hr => Rep.know1 (l := 1) (.s n) (some (.ptr 3 x.b 0)) rfl rfl (by rw [mget_skB, hx]; rfl) (ps_open hs hr)) rfl ?_
    refine Spec.of_G 26 Try.func12 (c := bodyOf Try.f12) (by kernel_rfl) (by kernel_rfl) (Nat.le_of_ble_eq_true rfl) fun W F => ?_
    refine G_vec (l := 4) rfl fun hcap _ => ?_
    refine G_run (kc := true) (ss := []) (Cs := []) trivial hmPl 600 ?_
    rw [pli_some]
    simp only [pListen, hx] at h
    cases he : sEq n ⟨#[]⟩ with
    | true =>
      simp only [he] at h
      exact ⟨s, fun W F w hr => Rep.dropR (ps_back hs hr), h 0⟩
    | false =>
      simp only [he] at h
      repeat' first
        | exact rfl
        | exact trivial
        | exact HEq.rfl
        | (refine fun b1 => ?_)
        | exact ⟨s, fun W F w hr => Rep.dropR (ps_back hs hr), h 0⟩
        | apply And.intro
        | (show _ ≤ _; omega)
        | (show _ < _; omega)
        | fail
theorem pCl_ok : CtrOk Try.prog 14 (adtC psE pcloseM) := adt_ok fun b s rest N h => by
  unfold pcloseM at h
  split at h
  case h_2 => exact h.elim
  rename_i n
  obtain ⟨ho, h⟩ := h
  cases hx : mget s.sk (.s n) with
  | none =>
    refine Spec.pre (hs' := [⟨.blk b, .cells [.map 1 s.bm, .vec 2 s.aoD s.ds.length s.capD, .int .i64 s.last] 131⟩, ⟨.blk s.bm, .map1 none encPq (s.sk.map skB) (.s n) none⟩, ⟨.sl s.aoD s.capD, .vecL 49 2 encDN s.ds DN.zero⟩, pk 0 (s.sk.map skE)]) (fun W F w hr => Rep.know1 (l := 1) (.s n) none rfl rfl (by rw [mget_skB, hx]; rfl) hr) rfl ?_
    refine Spec.of_G 23 Try.func14 (c := bodyOf Try.f14) (by kernel_rfl) (by kernel_rfl) (Nat.le_of_ble_eq_true rfl) fun W F => ?_
    refine G_run (kc := true) (ss := []) (Cs := []) trivial hmPl 600 ?_
    rw [pcl_none]
    simp only [pClose, hx] at h
    repeat' first
      | exact rfl
      | exact trivial
      | exact HEq.rfl
      | (refine fun b1 => ?_)
      | exact ⟨s, fun W F w hr => Rep.dropR (ps_back0 hr), h⟩
      | apply And.intro
      | (show _ ≤ _; omega)
      | (show _ < _; omega)
      | fail
  | some x =>
    obtain ⟨l1, l2, hs, hset, hdel⟩ := sk_split hx
    have hcl : x.cs.length ≤ 100 := ho.cl (.s n, x) (by rw [hs]; simp)
    refine Spec.pre (hs' := [⟨.blk b, .cells [.map 1 s.bm, .vec 2 s.aoD s.ds.length s.capD, .int .i64 s.last] 131⟩, ⟨.blk s.bm, .map1 none encPq (s.sk.map skB) (.s n) (some (.ptr 3 x.b 0))⟩, ⟨.sl s.aoD s.capD, .vecL 49 2 encDN s.ds DN.zero⟩, ⟨.blk x.b, .cells [.vec 4 x.ao x.cs.length x.cap] 135⟩, ⟨.sl x.ao x.cap, .vecL 41 2 encCN x.cs CN.zero⟩, pk 0 (l1.map skE ++ l2.map skE)]) (fun W F w hr => Rep.know1 (l := 1) (.s n) (some (.ptr 3 x.b 0)) rfl rfl (by rw [mget_skB, hx]; rfl) (ps_open hs hr)) rfl ?_
    refine Spec.of_G 23 Try.func14 (c := bodyOf Try.f14) (by kernel_rfl) (by kernel_rfl) (Nat.le_of_ble_eq_true rfl) fun W F => ?_
    refine G_vec (l := 4) rfl fun hcap _ => ?_
    refine G_run (kc := true) (ss := []) (Cs := []) trivial hmPl 600 ?_
    rw [pcl_some]
    simp only [pClose, hx] at h
    repeat' first
      | exact rfl
      | exact trivial
      | exact HEq.rfl
      | (refine fun b1 => ?_)
      | exact ⟨_, fun W F w hr => ps_del hs hdel hr, h⟩
      | apply And.intro
      | (show _ ≤ _; omega)
      | (show _ < _; omega)
      | fail
theorem pCo_ok : CtrOk Try.prog 16 (adtC psE pconnectM) := adt_ok fun b s rest N h => by
  unfold pconnectM at h
  split at h
  case h_2 => exact h.elim
  rename_i n text
  obtain ⟨ho, h⟩ := h
  cases hx : mget s.sk (.s n) with
  | none =>
    refine Spec.pre (hs' := [⟨.blk b, .cells [.map 1 s.bm, .vec 2 s.aoD s.ds.length s.capD, .int .i64 s.last] 131⟩, ⟨.blk s.bm, .map1 none encPq (s.sk.map skB) (.s n) none⟩, ⟨.sl s.aoD s.capD, .vecL 49 2 encDN s.ds DN.zero⟩, pk 0 (s.sk.map skE)]) (fun W F w hr => Rep.know1 (l := 1) (.s n) none rfl rfl (by rw [mget_skB, hx]; rfl) hr) rfl ?_
    refine Spec.of_G 47 Try.func16 (c := bodyOf Try.f16) (by kernel_rfl) (by kernel_rfl) (Nat.le_of_ble_eq_true rfl) fun W F => ?_
    refine G_run (kc := true) (ss := []) (Cs := [(71, inl Try.prog [] true Try.f71 300)]) ⟨inl_ok trivial hmPl Try.func71 (by kernel_rfl), trivial⟩ hmPl 900 ?_
    rw [pco_none]
    simp only [pConnect, hx] at h
    repeat' first
      | exact rfl
      | exact trivial
      | exact HEq.rfl
      | (refine fun b1 => ?_)
      | exact ⟨s, fun W F w hr => Rep.dropR (ps_back0 hr), h none 0⟩
      | apply And.intro
      | (show _ ≤ _; omega)
      | (show _ < _; omega)
      | fail
  | some x =>
    obtain ⟨l1, l2, hs, hset, hdel⟩ := sk_split hx
    have hcl : x.cs.length ≤ 100 := ho.cl (.s n, x) (by rw [hs]; simp)
    refine Spec.pre (hs' := [⟨.blk b, .cells [.map 1 s.bm, .vec 2 s.aoD s.ds.length s.capD, .int .i64 s.last] 131⟩, ⟨.blk s.bm, .map1 none encPq (s.sk.map skB) (.s n) (some (.ptr 3 x.b 0))⟩, ⟨.sl s.aoD s.capD, .vecL 49 2 encDN s.ds DN.zero⟩, ⟨.blk x.b, .cells [.vec 4 x.ao x.cs.length x.cap] 135⟩, ⟨.sl x.ao x.cap, .vecL 41 2 encCN x.cs CN.zero⟩, pk 0 (l1.map skE ++ l2.map skE)]) (fun W F w hr => Rep.know1 (l := 1) (.s n) (some (.ptr 3 x.b 0)) rfl rfl (by rw [mget_skB, hx]; rfl) (ps_open hs hr)) rfl ?_
    refine Spec.of_G 47 Try.func16 (c := bodyOf Try.f16) (by kernel_rfl) (by kernel_rfl) (Nat.le_of_ble_eq_true rfl) fun W F => ?_
    refine G_vec (l := 4) rfl fun hcap _ => ?_
    refine G_run (kc := true) (ss := []) (Cs := [(71, inl Try.prog [] true Try.f71 300)]) ⟨inl_ok trivial hmPl Try.func71 (by kernel_rfl), trivial⟩ hmPl 900 ?_
    rw [pco_some]
    have hla := ho.la
    have w1 : IntKind.wrap .i64 (s.last + 1) = s.last + 1 := IntWalk.i64_in _ (by omega)
    rw [w1]
    simp only [pConnect, hx] at h
    cases ht : decide ((text.size : Int) > 200) <;> cases hf : decide ((x.cs.length : Int) ≥ 16) <;> simp only [ht, hf] at h ⊢
    all_goals
      repeat' first
        | exact rfl
        | exact trivial
        | exact HEq.rfl
        | exact ⟨s, fun W F w hr => Rep.dropR (ps_back hs hr), h none 0⟩
        | (refine ⟨[⟨s.last + 1, text⟩], rfl, rfl, fun ao2 cap2 _ => ?_⟩)
        | (refine ⟨_, fun W F w hr => ps_set (cs := x.cs ++ [⟨s.last + 1, text⟩]) hs hset (by rw [List.length_append]; exact hr), h _ _⟩)
        | (refine fun b1 => ?_)
        | apply And.intro
        | (show _ ≤ _; omega)
        | (show _ < _; omega)
        | fail
theorem pAc_ok : CtrOk Try.prog 18 (adtC psE pacceptM) := adt_ok fun b s rest N h => by
  unfold pacceptM at h
  split at h
  case h_2 => exact h.elim
  rename_i n
  obtain ⟨ho, h⟩ := h
  cases hx : mget s.sk (.s n) with
  | none =>
    refine Spec.pre (hs' := [⟨.blk b, .cells [.map 1 s.bm, .vec 2 s.aoD s.ds.length s.capD, .int .i64 s.last] 131⟩, ⟨.blk s.bm, .map1 none encPq (s.sk.map skB) (.s n) none⟩, ⟨.sl s.aoD s.capD, .vecL 49 2 encDN s.ds DN.zero⟩, pk 0 (s.sk.map skE)]) (fun W F w hr => Rep.know1 (l := 1) (.s n) none rfl rfl (by rw [mget_skB, hx]; rfl) hr) rfl ?_
    refine Spec.of_G 28 Try.func18 (c := bodyOf Try.f18) (by kernel_rfl) (by kernel_rfl) (Nat.le_of_ble_eq_true rfl) fun W F => ?_
    refine G_run (kc := false) (ss := []) (Cs := [(72, inl Try.prog [] false Try.f72 300)]) ⟨inl_ok trivial hmPl Try.func72 (by kernel_rfl), trivial⟩ hmPl 900 ?_
    rw [pac_none]
    simp only [pAccept, hx] at h
    repeat' first
      | exact rfl
      | exact trivial
      | exact HEq.rfl
      | (refine fun b1 => ?_)
      | exact ⟨s, fun W F w hr => Rep.dropR (ps_back0 hr), h none 0⟩
      | apply And.intro
      | (show _ ≤ _; omega)
      | (show _ < _; omega)
      | fail
  | some x =>
    obtain ⟨l1, l2, hs, hset, hdel⟩ := sk_split hx
    have hcl : x.cs.length ≤ 100 := ho.cl (.s n, x) (by rw [hs]; simp)
    refine Spec.pre (hs' := [⟨.blk b, .cells [.map 1 s.bm, .vec 2 s.aoD s.ds.length s.capD, .int .i64 s.last] 131⟩, ⟨.blk s.bm, .map1 none encPq (s.sk.map skB) (.s n) (some (.ptr 3 x.b 0))⟩, ⟨.sl s.aoD s.capD, .vecL 49 2 encDN s.ds DN.zero⟩, ⟨.blk x.b, .cells [.vec 4 x.ao x.cs.length x.cap] 135⟩, ⟨.sl x.ao x.cap, .vecL 41 2 encCN x.cs CN.zero⟩, pk 0 (l1.map skE ++ l2.map skE)]) (fun W F w hr => Rep.know1 (l := 1) (.s n) (some (.ptr 3 x.b 0)) rfl rfl (by rw [mget_skB, hx]; rfl) (ps_open hs hr)) rfl ?_
    refine Spec.of_G 28 Try.func18 (c := bodyOf Try.f18) (by kernel_rfl) (by kernel_rfl) (Nat.le_of_ble_eq_true rfl) fun W F => ?_
    refine G_vec (l := 4) rfl fun hcap _ => ?_
    refine G_run (kc := false) (ss := []) (Cs := [(72, inl Try.prog [] false Try.f72 300)]) ⟨inl_ok trivial hmPl Try.func72 (by kernel_rfl), trivial⟩ hmPl 900 ?_
    rw [pac_some]
    obtain ⟨xb, xa, xc, cs⟩ := x
    simp only [pAccept, hx] at h
    cases cs with
    | nil =>
      dsimp only [List.length_nil] at *
      repeat' first
        | exact rfl
        | exact trivial
        | exact HEq.rfl
        | exact ⟨s, fun W F w hr => Rep.dropR (ps_back hs hr), h none 0⟩
        | (refine fun b1 => ?_)
        | apply And.intro
        | (show _ ≤ _; omega)
        | (show _ < _; omega)
        | fail
    | cons c cs =>
      have e0 : ((((c :: cs).length : Nat) : Int) == 0) = false := by simp; omega
      have g0 : ∀ d, (c :: cs).getD 0 d = c := fun _ => rfl
      simp only [e0, g0]
      dsimp only at h hcap hcl
      rw [List.length_cons] at hcap
      have fin : ∀ (t : List Ent), (fun h' r => ∃ s', (∀ W F w, Rep W F h' w → Rep W F (psE s' b) w) ∧ N s' r) (⟨.blk b, .cells [.map 1 s.bm, .vec 2 s.aoD s.ds.length s.capD, .int .i64 s.last] 131⟩ :: ⟨.blk s.bm, .map1 none encPq (s.sk.map skB) (.s n) (some (.ptr 3 xb 0))⟩ :: ⟨.sl s.aoD s.capD, .vecL 49 2 encDN s.ds DN.zero⟩ :: ⟨.blk xb, .cells [.sub 4 xa xc 2 1 (c :: cs).length] 135⟩ :: ⟨.sl xa xc, .vecL 41 2 encCN (c :: cs) CN.zero⟩ :: pk 0 (l1.map skE ++ l2.map skE) :: t) (.tuple [.agg [.int .i64 c.id, .str c.text], .int .i64 0]) := fun t => by
        refine ⟨_, fun W F w hr => ?_, h (cutA xa xc 2 1) (xc - 1)⟩
        have a1 := Rep.cut (l := 4) (k := 1) rfl (by simp) hr
        have a2 := Rep.cellsEq (l := 3) (cs' := [.vec 4 (cutA xa xc 2 1) cs.length (xc - 1)]) rfl (by simp [denL, den_cut]) a1
        exact ps_set (la := s.last) (x := ⟨xb, xa, xc, c :: cs⟩) hs hset a2
      repeat' first
        | exact rfl
        | exact trivial
        | exact HEq.rfl
        | exact fin _
        | (simp only [List.length_cons]; omega)
        | (refine fun b1 => ?_)
        | apply And.intro
        | (show _ ≤ _; omega)
        | (show _ < _; omega)
        | fail
theorem setN_selfP {α : Type 1} {l : Nat} {v : α} : ∀ {h : List α}, nth h l = some v → setN h l v = h := by
  induction l with
  | zero => intro h hl; cases h <;> simp [nth, setN] at hl ⊢; exact hl.symm
  | succ l ih => intro h hl; cases h <;> simp [nth, setN] at hl ⊢; exact ih hl
theorem pWa_ok : CtrOk Try.prog 26 pwaitC := by
  intro args hs N h
  unfold pwaitC at h
  split at h
  case h_2 => exact h.elim
  rename_i l b n
  split at h
  case h_2 => exact h.elim
  rename_i b' σ' p s hl
  obtain ⟨rfl, rfl, hp, ho, hN⟩ := h
  cases hp
  simp only [cast_eq] at ho hN
  refine Spec.at (hp := [pkA b' psE s]) (args' := [.ptr 0 b' 0, .str n]) (Post' := fun h' r => ∃ ao cap, h' = [pkA b' psE s, ⟨.sl ao cap, .vecL 41 2 encCN (pWait s n) CN.zero⟩] ∧ r = .vec 1 ao (pWait s n).length cap) [l] (by simp [distinct]) (by simp [pickE, hl, pkA]) ?_ rfl ?_
  · refine Spec.up ?_
    cases hx : mget s.sk (.s n) with
    | none =>
      have e : pWait s n = [] := by simp only [pWait, hx]
      rw [e]
      refine Spec.pre (hs' := [⟨.blk b', .cells [.map 1 s.bm, .vec 2 s.aoD s.ds.length s.capD, .int .i64 s.last] 131⟩, ⟨.blk s.bm, .map1 none encPq (s.sk.map skB) (.s n) none⟩, ⟨.sl s.aoD s.capD, .vecL 49 2 encDN s.ds DN.zero⟩, pk 0 (s.sk.map skE)]) (fun W F w hr => Rep.know1 (l := 1) (.s n) none rfl rfl (by rw [mget_skB, hx]; rfl) hr.unpkA1) rfl ?_
      refine Spec.of_G 23 Try.func26 (c := bodyOf Try.f26) (by kernel_rfl) (by kernel_rfl) (Nat.le_of_ble_eq_true rfl) fun W F => ?_
      refine G_run (kc := true) (ss := []) (Cs := [(75, cloneC 41 2 24)]) ⟨cloneConn_ok, trivial⟩ hmPl 900 ?_
      rw [pwa_none]
      have fin : up (fun h' r => ∃ ao cap, h' = [pkA b' psE s, ⟨.sl ao cap, .vecL 41 2 encCN [] CN.zero⟩] ∧ r = .vec 1 ao ([] : List CN).length cap) [⟨.blk b', .cells [.map 1 s.bm, .vec 2 s.aoD s.ds.length s.capD, .int .i64 s.last] 131⟩, ⟨.blk s.bm, .map1 none encPq (s.sk.map skB) (.s n) none⟩, ⟨.sl s.aoD s.capD, .vecL 49 2 encDN s.ds DN.zero⟩, pk 0 (s.sk.map skE)] (.raw (.slice none 0 0)) := by
        refine ⟨[pkA b' psE s, ⟨.sl none 0, .vecL 41 2 encCN [] CN.zero⟩], .vec 1 none 0 0, fun W F w hr => ?_, rfl, none, 0, rfl, rfl⟩
        have h1 := ps_back0 (t := []) hr
        have h2 := Rep.nilvec 41 (sz := 2) (enc := encCN) CN.zero (fun _ => rfl) h1
        exact Rep.pkA (S := psE) (s := s) (t := [_]) h2
      repeat' first
        | exact rfl
        | exact trivial
        | exact HEq.rfl
        | exact fin
        | (refine fun _ => ?_)
        | apply And.intro
        | (show _ ≤ _; omega)
        | (show _ < _; omega)
        | fail
    | some x =>
      have e : pWait s n = x.cs := by simp only [pWait, hx]
      rw [e]
      obtain ⟨l1, l2, hs, hset, hdel⟩ := sk_split hx
      have hcl : x.cs.length ≤ 100 := ho.cl (.s n, x) (by rw [hs]; simp)
      refine Spec.pre (hs' := [⟨.blk b', .cells [.map 1 s.bm, .vec 2 s.aoD s.ds.length s.capD, .int .i64 s.last] 131⟩, ⟨.blk s.bm, .map1 none encPq (s.sk.map skB) (.s n) (some (.ptr 3 x.b 0))⟩, ⟨.sl s.aoD s.capD, .vecL 49 2 encDN s.ds DN.zero⟩, ⟨.blk x.b, .cells [.vec 4 x.ao x.cs.length x.cap] 135⟩, ⟨.sl x.ao x.cap, .vecL 41 2 encCN x.cs CN.zero⟩, pk 0 (l1.map skE ++ l2.map skE)]) (fun W F w hr => Rep.know1 (l := 1) (.s n) (some (.ptr 3 x.b 0)) rfl rfl (by rw [mget_skB, hx]; rfl) (ps_open hs hr.unpkA1)) rfl ?_
      refine Spec.of_G 23 Try.func26 (c := bodyOf Try.f26) (by kernel_rfl) (by kernel_rfl) (Nat.le_of_ble_eq_true rfl) fun W F => ?_
      refine G_run (kc := true) (ss := []) (Cs := [(75, cloneC 41 2 24)]) ⟨cloneConn_ok, trivial⟩ hmPl 900 ?_
      rw [pwa_some]
      have fin : ∀ (ao : Option Addr) (cap : Nat), up (fun h' r => ∃ ao cap, h' = [pkA b' psE s, ⟨.sl ao cap, .vecL 41 2 encCN x.cs CN.zero⟩] ∧ r = .vec 1 ao x.cs.length cap) ([⟨.blk b', .cells [.map 1 s.bm, .vec 2 s.aoD s.ds.length s.capD, .int .i64 s.last] 131⟩, ⟨.blk s.bm, .map1 none encPq (s.sk.map skB) (.s n) (some (.ptr 3 x.b 0))⟩, ⟨.sl s.aoD s.capD, .vecL 49 2 encDN s.ds DN.zero⟩, ⟨.blk x.b, .cells [.vec 4 x.ao x.cs.length x.cap] 135⟩, ⟨.sl x.ao x.cap, .vecL 41 2 encCN x.cs CN.zero⟩, pk 0 (l1.map skE ++ l2.map skE)] ++ [⟨.sl ao cap, .vecL 41 2 encCN x.cs CN.zero⟩]) (.vec 6 ao x.cs.length cap) := fun ao cap => by
        refine ⟨[pkA b' psE s, ⟨.sl ao cap, .vecL 41 2 encCN x.cs CN.zero⟩], .vec 1 ao x.cs.length cap, fun W F w hr => ?_, rfl, ao, cap, rfl, rfl⟩
        have h1 := ps_back hs hr
        exact Rep.pkA (S := psE) (s := s) (t := [_]) h1
      repeat' first
        | exact rfl
        | exact trivial
        | exact HEq.rfl
        | exact fin _ _
        | (refine fun _ => ?_)
        | apply And.intro
        | (show _ ≤ _; omega)
        | (show _ < _; omega)
        | fail
  · rintro h' r ⟨ao, cap, rfl, rfl⟩
    refine ⟨Nat.le_of_ble_eq_true rfl, .vec (lenN hs) ao (pWait s n).length cap, rfl, ?_⟩
    have := hN ao cap
    have e0 : setN hs l (pkA b' psE s) = hs := setN_selfP hl
    simpa [putBack, appE_eq, snoc_eq, e0] using this
theorem pSe_ok : CtrOk Try.prog 20 (adtC psE psendM) := adt_ok fun b s rest N h => by
  unfold psendM at h
  split at h
  case h_2 => exact h.elim
  rename_i pid text
  obtain ⟨ho, h⟩ := h
  have hdl := ho.dl
  refine Spec.pre (hs' := [⟨.blk b, .cells [.map 1 s.bm, .vec 2 s.aoD s.ds.length s.capD, .int .i64 s.last] 131⟩, ⟨.blk s.bm, .mapL none encPq (s.sk.map skB)⟩, ⟨.sl s.aoD s.capD, .vecL 49 2 encDN s.ds DN.zero⟩, pk 0 (s.sk.map skE)]) (fun W F w hr => hr) rfl ?_
  refine Spec.of_G 18 Try.func20 (c := bodyOf Try.f20) (by kernel_rfl) (by kernel_rfl) (Nat.le_of_ble_eq_true rfl) fun W F => ?_
  refine G_run (kc := true) (ss := []) (Cs := [(73, inl Try.prog [] true Try.f73 300)]) ⟨inl_ok trivial hmPl Try.func73 (by kernel_rfl), trivial⟩ hmPl 900 ?_
  rw [pse_run]
  cases ht : decide ((text.size : Int) > 200) <;> cases hf : decide ((s.ds.length : Int) ≥ 16) <;> simp only [dAdd, ht, hf] at h ⊢
  case false.false =>
    have fin : ∀ (ao2 : Option Addr) (cap2 : Nat) (t : List Ent), (fun h' r => ∃ s', (∀ W F w, Rep W F h' w → Rep W F (psE s' b) w) ∧ N s' r) (⟨.blk b, .cells [.map 1 s.bm, .vec 2 ao2 (s.ds.length + 1) cap2, .int .i64 s.last] 131⟩ :: ⟨.blk s.bm, .mapL none encPq (s.sk.map skB)⟩ :: ⟨.sl ao2 cap2, .vecL 49 2 encDN (s.ds ++ [⟨pid, text⟩]) DN.zero⟩ :: pk 0 (s.sk.map skE) :: t) (.int .i64 0) := fun ao2 cap2 t => by
      refine ⟨_, fun W F w hr => ?_, h ao2 cap2⟩
      have e : s.ds.length + 1 = (s.ds ++ [(⟨pid, text⟩ : DN)]).length := by simp
      rw [e] at hr
      exact Rep.dropR (h := psE { s with aoD := ao2, capD := cap2, ds := s.ds ++ [⟨pid, text⟩] } b) hr
    repeat' first
      | exact rfl
      | exact trivial
      | exact HEq.rfl
      | (refine ⟨[⟨pid, text⟩], rfl, rfl, fun ao2 cap2 _ => ?_⟩)
      | exact fin _ _ _
      | (refine fun b1 => ?_)
      | apply And.intro
      | (show _ ≤ _; omega)
      | (show _ < _; omega)
      | fail
  all_goals
    repeat' first
      | exact rfl
      | exact trivial
      | exact HEq.rfl
      | exact ⟨s, fun W F w hr => Rep.dropR (h := psE s b) hr, h s.aoD s.capD⟩
      | (refine fun b1 => ?_)
      | apply And.intro
      | (show _ ≤ _; omega)
      | (show _ < _; omega)
      | fail

theorem pRe_ok : CtrOk Try.prog 22 (adtC psE precvM) := adt_ok fun b s rest N h => by
  unfold precvM at h
  split at h
  case h_2 => exact h.elim
  obtain ⟨ho, h⟩ := h
  obtain ⟨bm, sk, aoD, capD, ds, la⟩ := s
  refine Spec.pre (hs' := [⟨.blk b, .cells [.map 1 bm, .vec 2 aoD ds.length capD, .int .i64 la] 131⟩, ⟨.blk bm, .mapL none encPq (sk.map skB)⟩, ⟨.sl aoD capD, .vecL 49 2 encDN ds DN.zero⟩, pk 0 (sk.map skE)]) (args' := [.ptr 0 b 0]) (fun W F w hr => hr) rfl ?_
  refine Spec.of_G 10 Try.func22 (c := bodyOf Try.f22) (by kernel_rfl) (by kernel_rfl) (Nat.le_of_ble_eq_true rfl) fun W F => ?_
  refine G_vec (l := 2) rfl fun hcap _ => ?_
  refine G_run (kc := false) (ss := []) (Cs := [(74, inl Try.prog [] false Try.f74 300)]) ⟨inl_ok trivial hmPl Try.func74 (by kernel_rfl), trivial⟩ hmPl 900 ?_
  rw [pre_run]
  dsimp only at h
  cases ds with
  | nil =>
    dsimp only [List.length_nil, dTake] at *
    repeat' first
      | exact rfl
      | exact trivial
      | exact HEq.rfl
      | exact ⟨⟨bm, sk, aoD, capD, [], la⟩, fun W F w hr => Rep.dropR (h := psE ⟨bm, sk, aoD, capD, [], la⟩ b) hr, h aoD capD⟩
      | (refine fun b1 => ?_)
      | apply And.intro
      | (show _ ≤ _; omega)
      | (show _ < _; omega)
      | fail
  | cons d ds =>
    have e0 : ((((d :: ds).length : Nat) : Int) == 0) = false := by simp; omega
    have g0 : ∀ z, (d :: ds).getD 0 z = d := fun _ => rfl
    simp only [e0, g0]
    rw [List.length_cons] at hcap
    have fin : ∀ (t : List Ent), (fun h' r => ∃ s', (∀ W F w, Rep W F h' w → Rep W F (psE s' b) w) ∧ N s' r) (⟨.blk b, .cells [.map 1 bm, .sub 2 aoD capD 2 1 (d :: ds).length, .int .i64 la] 131⟩ :: ⟨.blk bm, .mapL none encPq (sk.map skB)⟩ :: ⟨.sl aoD capD, .vecL 49 2 encDN (d :: ds) DN.zero⟩ :: pk 0 (sk.map skE) :: t) (.tuple [.agg [.int .i64 d.pid, .str d.text], .bool true]) := fun t => by
      refine ⟨_, fun W F w hr => ?_, h (cutA aoD capD 2 1) (capD - 1)⟩
      have a1 := Rep.cut (l := 2) (k := 1) rfl (by simp) hr
      have a2 := Rep.cellsEq (l := 0) (cs' := [.map 1 bm, .vec 2 (cutA aoD capD 2 1) ds.length (capD - 1), .int .i64 la]) rfl (by simp [denL, den_cut]) a1
      exact Rep.dropR (h := psE ⟨bm, sk, cutA aoD capD 2 1, capD - 1, ds, la⟩ b) a2
    repeat' first
      | exact rfl
      | exact trivial
      | exact HEq.rfl
      | exact fin _
      | (simp only [List.length_cons]; omega)
      | (refine fun b1 => ?_)
      | apply And.intro
      | (show _ ≤ _; omega)
      | (show _ < _; omega)
      | fail

theorem pDg_ok : CtrOk Try.prog 24 (adtC psE pdgM) := adt_ok fun b s rest N h => by
  unfold pdgM at h
  split at h
  case h_2 => exact h.elim
  obtain ⟨ho, h⟩ := h
  refine Spec.pre (hs' := [⟨.blk b, .cells [.map 1 s.bm, .vec 2 s.aoD s.ds.length s.capD, .int .i64 s.last] 131⟩, ⟨.blk s.bm, .mapL none encPq (s.sk.map skB)⟩, ⟨.sl s.aoD s.capD, .vecL 49 2 encDN s.ds DN.zero⟩, pk 0 (s.sk.map skE)]) (args' := [.ptr 0 b 0]) (fun W F w hr => hr) rfl ?_
  refine Spec.of_G 9 Try.func24 (c := bodyOf Try.f24) (by kernel_rfl) (by kernel_rfl) (Nat.le_of_ble_eq_true rfl) fun W F => ?_
  refine G_run (kc := true) (ss := []) (Cs := []) trivial hmPl 600 ?_
  rw [pdg_run]
  repeat' first
    | exact rfl
    | exact trivial
    | exact HEq.rfl
    | exact ⟨s, fun W F w hr => hr, h⟩
    | (refine fun b1 => ?_)
    | apply And.intro
    | (show _ ≤ _; omega)
    | (show _ < _; omega)
    | fail
end Go.Proofs.Ytkcmgcoppecfpaa

/- The document's ports: at, Listen, Close. -/
namespace Go.Proofs.Ytkcmgcoppecfpaa
open Go Go.RowKit
theorem tw_len {α : Type} (p : α → Bool) : ∀ (l : List α) (i : Nat), i ≤ l.length → (∀ x ∈ l.take i, p x = true) → (∀ h : i < l.length, p l[i] = false) → (l.takeWhile p).length = i
  | [], i, h, _, _ => by
    have : i = 0 := by simpa using h
    subst this; rfl
  | x :: l, 0, _, _, h2 => by
    have := h2 (by simp)
    simp only [List.getElem_cons_zero] at this
    rw [List.takeWhile_cons, if_neg (by rw [this]; decide)]
    rfl
  | x :: l, i + 1, h, h1, h2 => by
    have hx : p x = true := h1 x (by simp)
    have ih := tw_len p l i (by simpa using h) (fun y hy => h1 y (by simp [hy])) (fun hlt => by
      have := h2 (by simpa using hlt)
      simpa using this)
    rw [List.takeWhile_cons, if_pos hx, List.length_cons, ih]
theorem getD_ltR {α : Type} (l : List α) (d : α) (i : Nat) (h : i < l.length) : l.getD i d = l[i] := by simp [List.getD, h]
theorem copy_ins {α : Type} (L : List α) (z new : α) (i : Nat) (h : i ≤ L.length) : (copyL (L ++ [z]) (i + 1) i (Nat.min (L.length + 1 - i) (L.length + 1 - (i + 1)))).set i new = L.take i ++ new :: L.drop i := by
  have hm : Nat.min (L.length + 1 - i) (L.length + 1 - (i + 1)) = L.length - i := by
    have := Nat.min_eq_right (a := L.length + 1 - i) (b := L.length + 1 - (i + 1)) (by omega)
    have h2 : L.length + 1 - (i + 1) = L.length - i := by omega
    rw [← h2]; exact this
  rw [hm]
  obtain ⟨x, y, rfl, hx⟩ : ∃ x y, L = x ++ y ∧ x.length = i := ⟨L.take i, L.drop i, (List.take_append_drop i L).symm, by simp; omega⟩
  subst hx
  obtain ⟨a, ha⟩ : ∃ a, (y ++ [z]).take 1 = [a] := by cases y <;> exact ⟨_, rfl⟩
  have e1 : ((x ++ y) ++ [z]).take (x.length + 1) = x ++ [a] := by
    rw [List.append_assoc, List.take_append, List.take_of_length_le (by omega), show x.length + 1 - x.length = 1 by omega, ha]
  have e2 : ((x ++ y) ++ [z]).drop x.length = y ++ [z] := by rw [List.append_assoc, List.drop_left]
  have e3 : (x ++ y).length - x.length = y.length := by simp
  have e4 : ((x ++ y) ++ [z]).drop (x.length + 1 + y.length) = [] := List.drop_of_length_le (by simp; omega)
  unfold copyL
  rw [e1, e2, e3, List.take_left, e4, List.append_nil, List.take_left, List.drop_left, List.append_assoc]
  rw [List.set_append_right _ _ (Nat.le_refl _)]
  simp
theorem set_split {α : Type} (l : List α) (i : Nat) (a : α) (h : i < l.length) : l.set i a = l.take i ++ a :: l.drop (i + 1) := List.set_eq_take_append_cons_drop.trans (by rw [if_pos h])
theorem setN_selfQ {α : Type 1} {l : Nat} {v : α} : ∀ {h : List α}, nth h l = some v → setN h l v = h := by
  induction l with
  | zero => intro h hl; cases h <;> simp [nth, setN] at hl ⊢; exact hl.symm
  | succ l ih => intro h hl; cases h <;> simp [nth, setN] at hl ⊢; exact ih hl
section
variable {W w : World} {F : List Ch} {r : RPs} {b i : Nat}
theorem rp_open (hi : i < r.L.length) (hr : Rep W F (rpE r b) w) : Rep W F [⟨.blk b, .cells [.vec 1 r.aoL (r.L).length r.capL, .int .i64 r.nx, .vec 2 r.aoD (r.ds).length r.capD] 30⟩, ⟨.sl r.aoL r.capL, .vecL 62 2 encRpt (r.L) zP⟩, ⟨.sl r.aoD r.capD, .vecL 49 2 encDN (r.ds) DN.zero⟩, pk 0 ((r.L.take i).map cnE ++ (r.L.drop (i + 1)).map cnE), cnE r.L[i]] w := by
  have e : r.L.map cnE = (r.L.take i).map cnE ++ cnE r.L[i] :: (r.L.drop (i + 1)).map cnE := by
    rw [← List.map_cons, ← List.map_append]
    congr 1
    rw [← List.drop_eq_getElem_cons hi, List.take_append_drop]
  unfold rpE at hr
  rw [e] at hr
  have h1 := Rep.outP (p := [_, _, _]) (t := []) hr
  exact Rep.pick (π := [0, 1, 2, 4, 3]) (by decide) rfl h1
theorem rp_close {a1 a2 a3 : Ent} {g : RPt} {L : List RPt} {t : List Ent} (hi : i < L.length) (hr : Rep W F (a1 :: a2 :: a3 :: pk 0 ((L.take i).map cnE ++ (L.drop (i + 1)).map cnE) :: cnE g :: t) w) : Rep W F (a1 :: a2 :: a3 :: pk 0 ((L.set i g).map cnE) :: t) w := by
  have h0 : Rep W F (a1 :: a2 :: a3 :: cnE g :: pk 0 ((L.take i).map cnE ++ (L.drop (i + 1)).map cnE) :: t) w := hr.perm (((List.Perm.swap _ _ t).cons a3).cons a2 |>.cons a1)
  have h1 := Rep.intoP (p := [a1, a2, a3]) (t := t) (e := cnE g) h0
  have e : (L.set i g).map cnE = (L.take i).map cnE ++ cnE g :: (L.drop (i + 1)).map cnE := by rw [set_split _ _ _ hi]; simp
  rw [e]; exact h1
end
theorem qat_ok : CtrOk Try.prog 70 qatO := by
  intro args hs N h
  unfold qatO at h
  split at h
  case h_2 => exact h.elim
  rename_i l b n
  split at h
  case h_2 => exact h.elim
  rename_i b' lL aoL nL capL c1 c2 T hl
  obtain ⟨⟨rfl, rfl, hne⟩, L, hL, ⟨rfl, hlen⟩, hN⟩ := h
  have hne' : l ≠ lL := fun e => by subst e; simp at hne
  refine Spec.at (hp := [⟨.blk b', .cells [.vec lL aoL L.length capL, c1, c2] 30⟩, ⟨.sl aoL capL, .vecL 62 2 encRpt L zP⟩]) (args' := [.ptr 0 b' 0, .str n]) (Post' := fun h' res => h' = [⟨.blk b', .cells [.vec lL aoL L.length capL, c1, c2] 30⟩, ⟨.sl aoL capL, .vecL 62 2 encRpt L zP⟩] ∧ res = .tuple [.int .i64 (qAt L n : Int), .bool (qHas L n)]) [l, lL] (by simpa [distinct] using hne') (by simp [pickE, hl, hL]) ?_ rfl ?_
  · refine Spec.up ?_
    refine Spec.pre (hs' := [⟨.blk b', .cells [.vec 1 aoL L.length capL, c1, c2] 30⟩, ⟨.sl aoL capL, .vecL 62 2 encRpt L zP⟩]) (args' := [.ptr 0 b' 0, .str n]) (fun W F w hr => Rep.cellsEq (l := 0) (cs' := [.vec 1 aoL L.length capL, c1, c2]) rfl (by rfl) hr) rfl ?_
    refine Spec.of_G 48 Try.func70 (c := bodyOf Try.f70) (by kernel_rfl) (by kernel_rfl) (Nat.le_of_ble_eq_true rfl) fun W F => ?_
    refine G_run (kc := false) (ss := []) (Cs := []) trivial hmPl 600 ?_
    rw [qat_start]
    refine G_loopAt (ι := Nat) [] (bodyOf Try.f70) [1, 1, 0, 0] 48 (fun i => [(0, .ptr 0 b' 0), (1, .str n), (6, .int .i64 (i : Int))]) (fun _ => [⟨.blk b', .cells [.vec 1 aoL L.length capL, c1, c2] 30⟩, ⟨.sl aoL capL, .vecL 62 2 encRpt L zP⟩]) (fun i => i ≤ L.length ∧ ∀ g ∈ L.take i, sLt g.name n = true) (fun i => L.length - i) 0 (by kernel_rfl) (fun J => by kernel_rfl) ⟨Nat.zero_le _, fun g hg => by simp at hg⟩ rfl ⟨rfl, rfl, rfl, trivial⟩ (fun w hw => hw) ?_
    rintro i ⟨hi, hv⟩ u
    try dsimp only at hi hv ⊢
    simp only [List.nil_append, List.cons_append]
    refine G_run (kc := true) (ss := []) (Cs := []) trivial hmPl 900 ?_
    rw [qat_body]
    have w1 : IntKind.wrap .i64 ((i : Int) + 1) = ((i + 1 : Nat) : Int) := IntWalk.i64_in _ (by omega)
    rw [Int.toNat_natCast]
    have fin : ∀ (v : Bool), qAt L n = i → qHas L n = v → up (fun h' res => h' = [⟨.blk b', .cells [.vec lL aoL L.length capL, c1, c2] 30⟩, ⟨.sl aoL capL, .vecL 62 2 encRpt L zP⟩] ∧ res = .tuple [.int .i64 (qAt L n : Int), .bool (qHas L n)]) [⟨.blk b', .cells [.vec 1 aoL L.length capL, c1, c2] 30⟩, ⟨.sl aoL capL, .vecL 62 2 encRpt L zP⟩] (.tuple [.int .i64 (i : Int), .bool v]) := fun v h1 h2 =>
      ⟨_, _, fun W F w hr => Rep.cellsEq (l := 0) (cs' := [.vec lL aoL L.length capL, c1, c2]) rfl (by rfl) hr, by rw [h1, h2], rfl, rfl⟩
    refine ⟨rfl, ?_⟩
    cases hlt : decide ((i : Int) < (L.length : Int)) with
    | false =>
      simp only [decide_eq_false_iff_not] at hlt
      have e : qAt L n = i := tw_len _ _ _ hi hv fun h => by omega
      refine ⟨rfl, fin false e ?_⟩
      have e' : nAt RPt.name L n = i := e
      show nHas RPt.name zP L n = false
      unfold nHas
      rw [e', decide_eq_false (by omega)]; rfl
    | true =>
      simp only [decide_eq_true_eq] at hlt
      have hi2 : i < L.length := by omega
      have hg : ∀ d, L.getD i d = L[i] := fun d => getD_ltR _ _ _ hi2
      rw [hg]
      refine ⟨rfl, ⟨rfl, rfl, rfl, by omega, by omega⟩, ⟨rfl, rfl, rfl, hi2⟩, ?_⟩
      cases hc : sLt L[i].name n with
      | true =>
        refine G_back (i + 1) ⟨hi2, fun g hgm => ?_⟩ (by omega) rfl ⟨rfl, rfl, congrArg (Value.int .i64) w1, trivial⟩ (fun w hw => hw)
        rw [List.take_succ_eq_append_getElem hi2] at hgm
        rcases List.mem_append.1 hgm with hgm | hgm
        · exact hv g hgm
        · rw [List.mem_singleton.1 hgm]; exact hc
      | false =>
        have e : qAt L n = i := tw_len _ _ _ hi hv fun _ => hc
        have e' : nAt RPt.name L n = i := e
        have h2 : qHas L n = sEq L[i].name n := by
          show nHas RPt.name zP L n = _
          unfold nHas
          rw [e', decide_eq_true hi2, hg]; rfl
        exact ⟨rfl, rfl, ⟨rfl, rfl, rfl, by omega, by omega⟩, ⟨rfl, rfl, rfl, hi2⟩, fin _ e h2⟩
  · rintro h' res ⟨rfl, rfl⟩
    refine ⟨Nat.le_refl _, _, rfl, ?_⟩
    simpa [putBack, appE_eq, setN_selfQ hl, setN_selfQ hL] using hN
theorem qwT_ok : AllOk Try.prog [(70, qatO)] := ⟨qat_ok, trivial⟩
theorem qHas_lt {L : List RPt} {n : ByteArray} (h : qHas L n = true) : qAt L n < L.length := by
  have h : nHas RPt.name zP L n = true := h
  unfold nHas at h
  simp only [Bool.and_eq_true, decide_eq_true_eq] at h
  exact h.1
theorem qLi_ok : CtrOk Try.prog 13 (adtC rpE qlistenM) := adt_ok fun b r rest N h => by
  unfold qlistenM at h
  split at h
  case h_2 => exact h.elim
  rename_i n
  obtain ⟨ho, h⟩ := h
  have hL := ho.len
  refine Spec.pre (hs' := [⟨.blk b, .cells [.vec 1 r.aoL (r.L).length r.capL, .int .i64 r.nx, .vec 2 r.aoD (r.ds).length r.capD] 30⟩, ⟨.sl r.aoL r.capL, .vecL 62 2 encRpt (r.L) zP⟩, ⟨.sl r.aoD r.capD, .vecL 49 2 encDN (r.ds) DN.zero⟩, pk 0 (r.L.map cnE)]) (fun W F w hr => hr) rfl ?_
  refine Spec.of_G 50 Try.func13 (c := bodyOf Try.f13) (by kernel_rfl) (by kernel_rfl) (Nat.le_of_ble_eq_true rfl) fun W F => ?_
  refine G_run (kc := true) (ss := []) qwT_ok hmPl 2000 ?_
  rw [qli_run]
  refine ⟨rfl, ⟨rfl, rfl, rfl⟩, r.L, rfl, ⟨rfl, hL⟩, ?_⟩
  unfold qListen at h
  cases hn : sEq n ⟨#[]⟩ with
  | true =>
    rw [hn] at h
    exact ⟨r, fun W F w hr => hr, h none 0⟩
  | false =>
    rw [hn] at h
    cases hh : qHas r.L n with
    | true =>
      have hh' : nHas RPt.name (RPt.mk ⟨#[]⟩ none 0 []) r.L n = true := hh
      rw [hh'] ; rw [hh] at h
      exact ⟨r, fun W F w hr => hr, h none 0⟩
    | false =>
      have hh' : nHas RPt.name (RPt.mk ⟨#[]⟩ none 0 []) r.L n = false := hh
      rw [hh'] ; rw [hh] at h
      dsimp only at h ⊢
      have hi : qAt r.L n ≤ r.L.length := nAt_le _ _
      change ∀ ao cap, N { r with L := r.L.take (nAt RPt.name r.L n) ++ ⟨n, none, 0, []⟩ :: r.L.drop (nAt RPt.name r.L n), aoL := ao, capL := cap } _ at h
      have hi : nAt RPt.name r.L n ≤ r.L.length := hi
      generalize nAt RPt.name r.L n = i at hi h ⊢
      have w1 : IntKind.wrap .i64 ((i : Int) + 1) = ((i + 1 : Nat) : Int) := IntWalk.i64_in _ (by omega)
      rw [w1, Int.toNat_natCast, Int.toNat_natCast]
      have hcl := copy_ins r.L zP ⟨n, none, 0, []⟩ i hi
      have hcn : (copyL (r.L ++ [zP]) (i + 1) i (Nat.min (r.L.length + 1 - i) (r.L.length + 1 - (i + 1)))).length = r.L.length + 1 := by
        have := congrArg List.length hcl
        rw [List.length_set] at this
        rw [this]; simp; omega
      have fin : ∀ (ao2 : Option Addr) (cap2 : Nat) (e4 : Ent), (fun h' res => ∃ r', (∀ W F w, Rep W F h' w → Rep W F (rpE r' b) w) ∧ N r' res) [⟨.blk b, .cells [.vec 1 ao2 (r.L.length + 1) cap2, .int .i64 r.nx, .vec 2 r.aoD r.ds.length r.capD] 30⟩, ⟨.sl ao2 cap2, .vecL 62 2 encRpt ((copyL (r.L ++ [zP]) (i + 1) i (Nat.min (r.L.length + 1 - i) (r.L.length + 1 - (i + 1)))).set i ⟨n, none, 0, []⟩) zP⟩, ⟨.sl r.aoD r.capD, .vecL 49 2 encDN (r.ds) DN.zero⟩, pk 0 (r.L.map cnE), e4] (.int .i64 0) := fun ao2 cap2 e4 => by
        refine ⟨_, fun W F w hr => ?_, h ao2 cap2⟩
        have h1 := Rep.pick (π := [0, 1, 2, 3]) (by decide) rfl hr
        rw [hcl] at h1
        have em : r.L.map cnE = (r.L.take i).map cnE ++ (r.L.drop i).map cnE := by rw [← List.map_append, List.take_append_drop]
        rw [em] at h1
        have h3 := Rep.nilvec 41 (sz := 2) (enc := encCN) CN.zero (fun _ => rfl) h1
        have h4 := Rep.pick (π := [0, 1, 2, 4, 3]) (by decide) rfl h3
        have h5 := Rep.intoP (t := []) (e := cnE ⟨n, none, 0, []⟩) (p := [_, _, _]) h4
        unfold rpE
        have e5 : (r.L.take i ++ (⟨n, none, 0, []⟩ : RPt) :: r.L.drop i).map cnE = (r.L.take i).map cnE ++ cnE ⟨n, none, 0, []⟩ :: (r.L.drop i).map cnE := by simp
        have e6 : (r.L.take i ++ (⟨n, none, 0, []⟩ : RPt) :: r.L.drop i).length = r.L.length + 1 := by simp; omega
        dsimp only
        rw [e5, e6]
        exact h5
      repeat' first
        | exact rfl
        | exact fin _ _ _
        | (refine ⟨[zP], rfl, rfl, fun ao2 cap2 _ => ?_⟩)
        | (refine ⟨⟨n, none, 0, []⟩, rfl, ?_⟩)
        | exact (hcn.symm)
        | (rw [show (⟨⟨#[]⟩, none, 0, []⟩ : RPt) = zP from rfl]; rw [hcn]; omega)
        | (rw [List.length_append]; simp; omega)
        | apply And.intro
        | (refine fun _ => ?_)
        | (show _ ≤ _; omega)
        | (show _ < _; omega)
        | fail
theorem qCl_ok : CtrOk Try.prog 15 (adtC rpE qcloseM) := adt_ok fun b r rest N h => by
  unfold qcloseM at h
  split at h
  case h_2 => exact h.elim
  rename_i n
  obtain ⟨ho, h⟩ := h
  have hL := ho.len
  refine Spec.pre (hs' := [⟨.blk b, .cells [.vec 1 r.aoL (r.L).length r.capL, .int .i64 r.nx, .vec 2 r.aoD (r.ds).length r.capD] 30⟩, ⟨.sl r.aoL r.capL, .vecL 62 2 encRpt (r.L) zP⟩, ⟨.sl r.aoD r.capD, .vecL 49 2 encDN (r.ds) DN.zero⟩, pk 0 (r.L.map cnE)]) (fun W F w hr => hr) rfl ?_
  refine Spec.of_G 33 Try.func15 (c := bodyOf Try.f15) (by kernel_rfl) (by kernel_rfl) (Nat.le_of_ble_eq_true rfl) fun W F => ?_
  refine G_vec (l := 1) rfl fun hcap _ => ?_
  refine G_run (kc := true) (ss := []) qwT_ok hmPl 2000 ?_
  rw [qcl_run]
  refine ⟨rfl, ⟨rfl, rfl, rfl⟩, r.L, rfl, ⟨rfl, hL⟩, ?_⟩
  unfold qClose at h
  cases hh : qHas r.L n with
  | false =>
    have hh' : nHas RPt.name (RPt.mk ⟨#[]⟩ none 0 []) r.L n = false := hh
    rw [hh'] ; rw [hh] at h
    exact ⟨r, fun W F w hr => hr, h none 0⟩
  | true =>
    have hh' : nHas RPt.name (RPt.mk ⟨#[]⟩ none 0 []) r.L n = true := hh
    rw [hh'] ; rw [hh] at h
    rw [Bool.not_true]
    dsimp only at h ⊢
    have hi : qAt r.L n < r.L.length := qHas_lt hh
    change ∀ ao cap, N { r with L := r.L.take (nAt RPt.name r.L n) ++ r.L.drop (nAt RPt.name r.L n + 1), aoL := ao, capL := cap } _ at h
    have hi : nAt RPt.name r.L n < r.L.length := hi
    generalize nAt RPt.name r.L n = i at hi h ⊢
    have w1 : IntKind.wrap .i64 ((i : Int) + 1) = ((i + 1 : Nat) : Int) := IntWalk.i64_in _ (by omega)
    rw [w1, Int.toNat_natCast, Int.toNat_natCast]
    have ed : (r.L.drop (i + 1)).take (r.L.length - (i + 1)) = r.L.drop (i + 1) := List.take_of_length_le (by simp)
    have et : (r.L.drop 0).take (i - 0) = r.L.take i := by simp
    have el : i - 0 + (r.L.length - (i + 1)) = (r.L.take i ++ r.L.drop (i + 1)).length := by simp; omega
    rw [ed, et]
    have fin : ∀ (ao2 : Option Addr) (cap2 : Nat) (t : List Ent) (e1 : Ent), (fun h' res => ∃ r', (∀ W F w, Rep W F h' w → Rep W F (rpE r' b) w) ∧ N r' res) (⟨.blk b, .cells [.vec 4 ao2 (i - 0 + (r.L.length - (i + 1))) cap2, .int .i64 r.nx, .vec 2 r.aoD r.ds.length r.capD] 30⟩ :: e1 :: ⟨.sl r.aoD r.capD, .vecL 49 2 encDN (r.ds) DN.zero⟩ :: pk 0 (r.L.map cnE) :: ⟨.sl ao2 cap2, .vecL 62 2 encRpt (r.L.take i ++ r.L.drop (i + 1)) zP⟩ :: t) (.int .i64 0) := fun ao2 cap2 t e1 => by
      refine ⟨_, fun W F w hr => ?_, h ao2 cap2⟩
      have h0 := Rep.pick (π := [0, 4, 2, 3]) (by decide) rfl hr
      rw [el] at h0
      have h1 := Rep.cellsEq (l := 0) (cs' := [.vec 1 ao2 (r.L.take i ++ r.L.drop (i + 1)).length cap2, .int .i64 r.nx, .vec 2 r.aoD r.ds.length r.capD]) rfl (by rfl) h0
      have em : r.L.map cnE = (r.L.take i).map cnE ++ cnE r.L[i] :: (r.L.drop (i + 1)).map cnE := by
        rw [← List.map_cons, ← List.map_append]
        congr 1
        rw [← List.drop_eq_getElem_cons hi, List.take_append_drop]
      rw [em] at h1
      have h2 := Rep.outP (p := [_, _, _]) (t := []) h1
      have h3 := Rep.pick (π := [0, 1, 2, 4]) (by decide) rfl h2
      unfold rpE
      have e5 : (r.L.take i ++ r.L.drop (i + 1)).map cnE = (r.L.take i).map cnE ++ (r.L.drop (i + 1)).map cnE := by simp
      dsimp only
      rw [e5]
      exact h3
    have hti : (r.L.take i).length = i := by simp; omega
    repeat' first
      | exact rfl
      | exact fin _ _ _ _
      | (refine ⟨r.L.drop (i + 1), by simp, rfl, fun ao2 cap2 _ => ?_⟩)
      | exact hti.symm
      | apply And.intro
      | (refine fun _ => ?_)
      | (show _ ≤ _; omega)
      | (show _ < _; omega)
      | (rw [hti]; rfl)
      | fail
end Go.Proofs.Ytkcmgcoppecfpaa

/- The document's ports: Connect, Accept, Send, Receive. -/
namespace Go.Proofs.Ytkcmgcoppecfpaa
open Go Go.RowKit
theorem qq_set {W w : World} {F : List Ch} {r : RPs} {b i : Nat} {t : List Ent} {e : RPt} {ao : Option Addr} {cap : Nat} {cs : List CN} (hi : i < r.L.length) (hao : e.ao = ao) (hcap : e.cap = cap) (hcs : e.cs = cs) (nx : Int)
    (hr : Rep W F (⟨.blk b, .cells [.vec 1 r.aoL r.L.length r.capL, .int .i64 nx, .vec 2 r.aoD r.ds.length r.capD] 30⟩ :: ⟨.sl r.aoL r.capL, .vecL 62 2 encRpt (r.L.set i e) zP⟩ :: ⟨.sl r.aoD r.capD, .vecL 49 2 encDN (r.ds) DN.zero⟩ :: pk 0 ((r.L.take i).map cnE ++ (r.L.drop (i + 1)).map cnE) :: ⟨.sl ao cap, .vecL 41 2 encCN cs CN.zero⟩ :: t) w) : Rep W F (rpE { r with L := r.L.set i e, nx := nx } b) w := by
  subst hao; subst hcap; subst hcs
  have h1 := rp_close (g := e) hi hr
  unfold rpE
  dsimp only
  rw [List.length_set]
  exact Rep.dropR (h := [_, _, _, _]) h1
theorem qGet_eq {r : RPs} {n : ByteArray} (h : qAt r.L n < r.L.length) : qGet r n = r.L[qAt r.L n] := getD_ltR _ _ _ h
theorem qCo_ok : CtrOk Try.prog 17 (adtC rpE qconnectM) := adt_ok fun b r rest N h => by
  unfold qconnectM at h
  split at h
  case h_2 => exact h.elim
  rename_i n text
  obtain ⟨ho, h⟩ := h
  have hL := ho.len
  have hnx := ho.la
  refine Spec.pre (hs' := [⟨.blk b, .cells [.vec 1 r.aoL (r.L).length r.capL, .int .i64 r.nx, .vec 2 r.aoD (r.ds).length r.capD] 30⟩, ⟨.sl r.aoL r.capL, .vecL 62 2 encRpt (r.L) zP⟩, ⟨.sl r.aoD r.capD, .vecL 49 2 encDN (r.ds) DN.zero⟩, pk 0 (r.L.map cnE)]) (fun W F w hr => hr) rfl ?_
  refine Spec.of_G 88 Try.func17 (c := bodyOf Try.f17) (by kernel_rfl) (by kernel_rfl) (Nat.le_of_ble_eq_true rfl) fun W F => ?_
  refine G_run (kc := true) (ss := [4]) qwT_ok hmPl 3000 ?_
  rw [qco_start]
  refine ⟨rfl, ⟨rfl, rfl, rfl⟩, r.L, rfl, ⟨rfl, hL⟩, ?_⟩
  unfold qConnect at h
  cases hh : qHas r.L n with
  | false =>
    have hh' : nHas RPt.name (RPt.mk ⟨#[]⟩ none 0 []) r.L n = false := hh
    rw [hh'] ; rw [hh] at h
    exact ⟨r, fun W F w hr => hr, h none 0⟩
  | true =>
    have hh' : nHas RPt.name (RPt.mk ⟨#[]⟩ none 0 []) r.L n = true := hh
    rw [hh'] ; rw [hh] at h
    rw [Bool.not_true] at h ⊢
    rw [Bool.false_or] at h
    cases ht : decide ((text.size : Int) > 200) with
    | true =>
      rw [ht] at h
      exact ⟨r, fun W F w hr => hr, h none 0⟩
    | false =>
      rw [ht] at h
      dsimp only at h ⊢
      have hi : qAt r.L n < r.L.length := qHas_lt hh
      have hge := qGet_eq hi
      unfold qSet at h
      rw [hge] at h
      generalize hq : qAt r.L n = i at hi h
      have hq' : nAt RPt.name r.L n = i := hq
      rw [hq']
      have hg : ∀ d, r.L.getD i d = r.L[i] := fun d => getD_ltR _ _ _ hi
      have hcl := ho.cl r.L[i] (List.getElem_mem hi)
      have w1 : IntKind.wrap .i64 (r.nx + 1) = r.nx + 1 := IntWalk.i64_in _ (by omega)
      refine G_live 88 [(0, .ptr 0 b 0), (2, .str text), (8, .int .i64 (i : Int))] [⟨.blk b, .cells [.vec 1 r.aoL (r.L).length r.capL, .int .i64 r.nx, .vec 2 r.aoD (r.ds).length r.capD] 30⟩, ⟨.sl r.aoL r.capL, .vecL 62 2 encRpt (r.L) zP⟩, ⟨.sl r.aoD r.capD, .vecL 49 2 encDN (r.ds) DN.zero⟩, pk 0 ((r.L.take i).map cnE ++ (r.L.drop (i + 1)).map cnE), ⟨.sl r.L[i].ao r.L[i].cap, .vecL 41 2 encCN r.L[i].cs CN.zero⟩] rfl ⟨rfl, rfl, rfl, trivial⟩ (fun w hr => rp_open hi hr) fun u => ?_
      refine G_vec (l := 4) rfl fun hcap _ => ?_
      refine G_run (kc := true) (ss := [7]) (Cs := []) trivial hmPl 900 ?_
      rw [qco_4]
      rw [Int.toNat_natCast, hg, w1]
      refine ⟨rfl, ⟨rfl, rfl, rfl, by omega, by omega⟩, ⟨rfl, rfl, rfl, hi⟩, ?_⟩
      cases hf : decide ((r.L[i].cs.length : Int) ≥ 16) with
      | true =>
        rw [hf] at h
        refine ⟨r, fun W F w hr => ?_, h none 0⟩
        have h1 := rp_close (g := r.L[i]) hi hr
        rw [List.set_getElem_self hi] at h1
        exact h1
      | false =>
        rw [hf] at h
        dsimp only at h
        refine ⟨rfl, ⟨rfl, rfl, rfl, by omega⟩, ?_⟩
        refine G_live 88 [(0, .ptr 0 b 0), (2, .str text), (8, .int .i64 (i : Int))] [⟨.blk b, .cells [.vec 1 r.aoL (r.L).length r.capL, .int .i64 (r.nx + 1), .vec 2 r.aoD (r.ds).length r.capD] 30⟩, ⟨.sl r.aoL r.capL, .vecL 62 2 encRpt (r.L) zP⟩, ⟨.sl r.aoD r.capD, .vecL 49 2 encDN (r.ds) DN.zero⟩, pk 0 ((r.L.take i).map cnE ++ (r.L.drop (i + 1)).map cnE), ⟨.sl r.L[i].ao r.L[i].cap, .vecL 41 2 encCN r.L[i].cs CN.zero⟩] rfl ⟨rfl, rfl, rfl, trivial⟩ (fun w hr => hr) fun u => ?_
        refine G_run (kc := true) (ss := [200004]) (Cs := []) trivial hmPl 1500 ?_
        rw [qco_7]
        rw [Int.toNat_natCast, hg]
        have fin : ∀ (ao2 : Option Addr) (cap2 : Nat) (t : List Ent), (fun (h' : List Ent) (res : SV) => ∃ r', (∀ W F w, Rep W F h' w → Rep W F (rpE r' b) w) ∧ N r' res) (⟨.blk b, .cells [.vec 1 r.aoL r.L.length r.capL, .int .i64 (r.nx + 1), .vec 2 r.aoD r.ds.length r.capD] 30⟩ :: ⟨.sl r.aoL r.capL, .vecL 62 2 encRpt (r.L.set i ⟨r.L[i].name, ao2, cap2, r.L[i].cs ++ [⟨r.nx + 1, text⟩]⟩) zP⟩ :: ⟨.sl r.aoD r.capD, .vecL 49 2 encDN (r.ds) DN.zero⟩ :: pk 0 ((r.L.take i).map cnE ++ (r.L.drop (i + 1)).map cnE) :: ⟨.sl ao2 cap2, .vecL 41 2 encCN (r.L[i].cs ++ [⟨r.nx + 1, text⟩]) CN.zero⟩ :: t) (.tuple [.int .i64 (r.nx + 1), .int .i64 0]) := fun ao2 cap2 t =>
          ⟨_, fun W F w hr => qq_set hi rfl rfl rfl (r.nx + 1) hr, h ao2 cap2⟩
        repeat' first
          | exact rfl
          | exact trivial
          | exact hi
          | exact fin _ _ _
          | (refine ⟨[⟨r.nx + 1, text⟩], rfl, rfl, fun ao2 cap2 _ => ?_⟩)
          | (refine ⟨⟨r.L[i].name, _, _, r.L[i].cs ++ [⟨r.nx + 1, text⟩]⟩, (by rw [List.length_append]; rfl), ?_⟩)
          | apply And.intro
          | (refine fun b1 => ?_)
          | (show _ ≤ _; omega)
          | (show _ < _; omega)
          | fail
theorem qAc_ok : CtrOk Try.prog 19 (adtC rpE qacceptM) := adt_ok fun b r rest N h => by
  unfold qacceptM at h
  split at h
  case h_2 => exact h.elim
  rename_i n
  obtain ⟨ho, h⟩ := h
  have hL := ho.len
  unfold qAccept at h
  cases hh : qHas r.L n with
  | false =>
    refine Spec.pre (hs' := [⟨.blk b, .cells [.vec 1 r.aoL (r.L).length r.capL, .int .i64 r.nx, .vec 2 r.aoD (r.ds).length r.capD] 30⟩, ⟨.sl r.aoL r.capL, .vecL 62 2 encRpt (r.L) zP⟩, ⟨.sl r.aoD r.capD, .vecL 49 2 encDN (r.ds) DN.zero⟩, pk 0 (r.L.map cnE), ⟨.sl zP.ao zP.cap, .vecL 41 2 encCN zP.cs CN.zero⟩]) (args' := [.ptr 0 b 0, .str n]) (fun W F w hr => Rep.nilvec 41 (sz := 2) (enc := encCN) CN.zero (fun _ => rfl) hr) rfl ?_
    refine Spec.of_G 57 Try.func19 (c := bodyOf Try.f19) (by kernel_rfl) (by kernel_rfl) (Nat.le_of_ble_eq_true rfl) fun W F => ?_
    refine G_run (kc := true) (ss := [4]) qwT_ok hmPl 3000 ?_
    rw [qac_start (g := zP)]
    have hh' : nHas RPt.name (RPt.mk ⟨#[]⟩ none 0 []) r.L n = false := hh
    rw [hh] at h
    refine fun b1 => ⟨rfl, ⟨rfl, rfl, rfl⟩, r.L, rfl, ⟨rfl, hL⟩, ?_⟩
    rw [hh']
    exact ⟨⟨rfl, rfl⟩, ⟨rfl, rfl, rfl, Nat.le_refl _⟩, ⟨rfl, rfl⟩, r, fun W F w hr => Rep.dropR (h := rpE r b) hr, h none 0⟩
  | true =>
    rw [hh] at h
    have hi : qAt r.L n < r.L.length := qHas_lt hh
    have hge := qGet_eq hi
    unfold qSet at h
    rw [hge] at h
    generalize hq : qAt r.L n = i at hi h
    have hq' : nAt RPt.name r.L n = i := hq
    refine Spec.pre (hs' := [⟨.blk b, .cells [.vec 1 r.aoL (r.L).length r.capL, .int .i64 r.nx, .vec 2 r.aoD (r.ds).length r.capD] 30⟩, ⟨.sl r.aoL r.capL, .vecL 62 2 encRpt (r.L) zP⟩, ⟨.sl r.aoD r.capD, .vecL 49 2 encDN (r.ds) DN.zero⟩, pk 0 ((r.L.take i).map cnE ++ (r.L.drop (i + 1)).map cnE), ⟨.sl r.L[i].ao r.L[i].cap, .vecL 41 2 encCN r.L[i].cs CN.zero⟩]) (fun W F w hr => rp_open hi hr) rfl ?_
    refine Spec.of_G 57 Try.func19 (c := bodyOf Try.f19) (by kernel_rfl) (by kernel_rfl) (Nat.le_of_ble_eq_true rfl) fun W F => ?_
    refine G_vec (l := 4) rfl fun hcap _ => ?_
    refine G_run (kc := true) (ss := [4]) qwT_ok hmPl 3000 ?_
    rw [qac_start]
    have hh' : nHas RPt.name (RPt.mk ⟨#[]⟩ none 0 []) r.L n = true := hh
    have hg : ∀ d, r.L.getD i d = r.L[i] := fun d => getD_ltR _ _ _ hi
    refine fun b1 => ⟨rfl, ⟨rfl, rfl, rfl⟩, r.L, rfl, ⟨rfl, hL⟩, ?_⟩
    rw [hh', hq', Int.toNat_natCast, hg, Bool.not_true]
    refine ⟨rfl, ⟨rfl, rfl, rfl, by omega, by omega⟩, ⟨rfl, rfl, rfl, hi⟩, ?_⟩
    cases hcs : r.L[i].cs with
    | nil =>
      rw [hcs] at h
      refine ⟨⟨rfl, rfl⟩, ⟨rfl, rfl, rfl, Nat.le_refl _⟩, ⟨rfl, rfl⟩, r, fun W F w hr => ?_, h none 0⟩
      have hr' : Rep W F (⟨.blk b, .cells [.vec 1 r.aoL (r.L).length r.capL, .int .i64 r.nx, .vec 2 r.aoD (r.ds).length r.capD] 30⟩ :: ⟨.sl r.aoL r.capL, .vecL 62 2 encRpt (r.L) zP⟩ :: ⟨.sl r.aoD r.capD, .vecL 49 2 encDN (r.ds) DN.zero⟩ :: pk 0 ((r.L.take i).map cnE ++ (r.L.drop (i + 1)).map cnE) :: cnE r.L[i] :: [⟨.blk b1, .cells [.int .i64 0, .str ⟨#[]⟩] 41⟩]) w := by
        unfold cnE
        rw [hcs]
        exact hr
      have h1 := rp_close (g := r.L[i]) hi hr'
      rw [List.set_getElem_self hi] at h1
      exact Rep.dropR (h := rpE r b) h1
    | cons c cs =>
      rw [hcs] at h
      dsimp only at h
      have e0 : ((((c :: cs).length : Nat) : Int) == 0) = false := by simp; omega
      have hcap' : (c :: cs).length ≤ r.L[i].cap := by rw [← hcs]; exact hcap
      rw [e0]
      rw [← hcs]
      refine G_live 57 [(0, .ptr 0 b 0), (4, .ptr 5 b1 0), (6, .int .i64 (i : Int))] [⟨.blk b, .cells [.vec 1 r.aoL (r.L).length r.capL, .int .i64 r.nx, .vec 2 r.aoD (r.ds).length r.capD] 30⟩, ⟨.sl r.aoL r.capL, .vecL 62 2 encRpt (r.L) zP⟩, ⟨.sl r.aoD r.capD, .vecL 49 2 encDN (r.ds) DN.zero⟩, pk 0 ((r.L.take i).map cnE ++ (r.L.drop (i + 1)).map cnE), ⟨.sl r.L[i].ao r.L[i].cap, .vecL 41 2 encCN r.L[i].cs CN.zero⟩, ⟨.blk b1, .cells (encCN CN.zero) 41⟩] rfl ⟨rfl, rfl, rfl, trivial⟩ (fun w hr => hr) fun u => ?_
      refine G_run (kc := true) (ss := [5]) (Cs := []) trivial hmPl 1500 ?_
      rw [qac_4 (c := c) (cs := cs)]
      rw [Int.toNat_natCast, hg]
      have hc0 : ∀ d, r.L[i].cs.getD 0 d = c := fun d => by rw [hcs]; rfl
      rw [hc0]
      have hpos : 0 < r.L[i].cs.length := by rw [hcs]; simp
      refine ⟨rfl, ⟨rfl, rfl, rfl, by omega, by omega⟩, ⟨rfl, rfl, rfl, hi⟩, ⟨rfl, rfl, rfl, by omega, by omega⟩, ⟨rfl, rfl, rfl, hpos, rfl⟩, fun b2 => ⟨⟨rfl, rfl, rfl, Nat.le_refl _⟩, ?_⟩⟩
      refine G_live 57 [(0, .ptr 0 b 0), (4, .ptr 5 b1 0), (6, .int .i64 (i : Int)), (8, .ptr 6 b2 0)] [⟨.blk b, .cells [.vec 1 r.aoL (r.L).length r.capL, .int .i64 r.nx, .vec 2 r.aoD (r.ds).length r.capD] 30⟩, ⟨.sl r.aoL r.capL, .vecL 62 2 encRpt (r.L) zP⟩, ⟨.sl r.aoD r.capD, .vecL 49 2 encDN (r.ds) DN.zero⟩, pk 0 ((r.L.take i).map cnE ++ (r.L.drop (i + 1)).map cnE), ⟨.sl r.L[i].ao r.L[i].cap, .vecL 41 2 encCN r.L[i].cs CN.zero⟩, ⟨.blk b1, .cells (encCN CN.zero) 41⟩, ⟨.blk b2, .cells (encCN c) 41⟩] rfl ⟨rfl, rfl, rfl, rfl, trivial⟩ (fun w hr => hr) fun u => ?_
      refine G_run (kc := true) (ss := [200007]) (Cs := []) trivial hmPl 1500 ?_
      rw [qac_5]
      rw [Int.toNat_natCast, hg]
      refine ⟨rfl, rfl, ⟨rfl, rfl, rfl, by omega, by omega⟩, ⟨rfl, rfl, rfl, hi⟩, ⟨by omega, by omega, hcap⟩, ⟨rfl, rfl, rfl, by omega, by omega⟩, ⟨rfl, rfl, rfl, hi, rfl, rfl, Nat.le_refl _⟩, ?_⟩
      refine ⟨⟨r.L[i].name, cutA r.L[i].ao r.L[i].cap 2 1, r.L[i].cap - 1, cs⟩, ?_, ⟨rfl, rfl⟩, ⟨rfl, rfl, rfl, Nat.le_refl _⟩, ⟨rfl, rfl⟩, ?_⟩
      · rw [hcs]
        simp [denL, den_cut]
      · refine ⟨_, fun W F w hr => ?_, h (cutA r.L[i].ao r.L[i].cap 2 1) (r.L[i].cap - 1)⟩
        have a1 := Rep.cut (l := 4) (k := 1) rfl (by omega) hr
        rw [show r.L[i].cs.drop 1 = cs by rw [hcs]; rfl] at a1
        exact qq_set hi rfl rfl rfl r.nx a1
theorem qSe_ok : CtrOk Try.prog 21 (adtC rpE qsendM) := adt_ok fun b r rest N h => by
  unfold qsendM at h
  split at h
  case h_2 => exact h.elim
  rename_i pid text
  obtain ⟨ho, h⟩ := h
  have hL := ho.len
  have hdl := ho.dl
  refine Spec.pre (hs' := [⟨.blk b, .cells [.vec 1 r.aoL (r.L).length r.capL, .int .i64 r.nx, .vec 2 r.aoD (r.ds).length r.capD] 30⟩, ⟨.sl r.aoL r.capL, .vecL 62 2 encRpt (r.L) zP⟩, ⟨.sl r.aoD r.capD, .vecL 49 2 encDN (r.ds) DN.zero⟩, pk 0 (r.L.map cnE)]) (fun W F w hr => hr) rfl ?_
  refine Spec.of_G 41 Try.func21 (c := bodyOf Try.f21) (by kernel_rfl) (by kernel_rfl) (Nat.le_of_ble_eq_true rfl) fun W F => ?_
  refine G_run (kc := false) (ss := [200001]) (Cs := []) trivial hmPl 900 ?_
  rw [qse_run]
  cases ht : decide ((text.size : Int) > 200) <;> cases hf : decide ((r.ds.length : Int) ≥ 16) <;> simp only [dAdd, ht, hf] at h ⊢
  case false.false =>
    have fin : ∀ (ao2 : Option Addr) (cap2 : Nat) (t : List Ent), (fun (h' : List Ent) (res : SV) => ∃ r', (∀ W F w, Rep W F h' w → Rep W F (rpE r' b) w) ∧ N r' res) (⟨.blk b, .cells [.vec 1 r.aoL r.L.length r.capL, .int .i64 r.nx, .vec 2 ao2 (r.ds.length + 1) cap2] 30⟩ :: ⟨.sl r.aoL r.capL, .vecL 62 2 encRpt (r.L) zP⟩ :: ⟨.sl ao2 cap2, .vecL 49 2 encDN (r.ds ++ [⟨pid, text⟩]) DN.zero⟩ :: pk 0 (r.L.map cnE) :: t) (.int .i64 0) := fun ao2 cap2 t => by
      refine ⟨_, fun W F w hr => ?_, h ao2 cap2⟩
      have e : r.ds.length + 1 = (r.ds ++ [(⟨pid, text⟩ : DN)]).length := by simp
      rw [e] at hr
      exact Rep.dropR (h := rpE { r with aoD := ao2, capD := cap2, ds := r.ds ++ [⟨pid, text⟩] } b) hr
    repeat' first
      | exact rfl
      | exact trivial
      | exact HEq.rfl
      | (refine ⟨[⟨pid, text⟩], rfl, rfl, fun ao2 cap2 _ => ?_⟩)
      | exact fin _ _ _
      | (refine fun b1 => ?_)
      | apply And.intro
      | (show _ ≤ _; omega)
      | (show _ < _; omega)
      | fail
  all_goals
    repeat' first
      | exact rfl
      | exact trivial
      | exact HEq.rfl
      | exact ⟨r, fun W F w hr => Rep.dropR (h := rpE r b) hr, h r.aoD r.capD⟩
      | (refine fun b1 => ?_)
      | apply And.intro
      | (show _ ≤ _; omega)
      | (show _ < _; omega)
      | fail
theorem qRe_ok : CtrOk Try.prog 23 (adtC rpE qrecvM) := adt_ok fun b r rest N h => by
  unfold qrecvM at h
  split at h
  case h_2 => exact h.elim
  obtain ⟨ho, h⟩ := h
  have hL := ho.len
  obtain ⟨aoL, capL, L, nx, aoD, capD, ds⟩ := r
  refine Spec.pre (hs' := [⟨.blk b, .cells [.vec 1 aoL L.length capL, .int .i64 nx, .vec 2 aoD ds.length capD] 30⟩, ⟨.sl aoL capL, .vecL 62 2 encRpt L zP⟩, ⟨.sl aoD capD, .vecL 49 2 encDN ds DN.zero⟩, pk 0 (L.map cnE)]) (args' := [.ptr 0 b 0]) (fun W F w hr => hr) rfl ?_
  refine Spec.of_G 27 Try.func23 (c := bodyOf Try.f23) (by kernel_rfl) (by kernel_rfl) (Nat.le_of_ble_eq_true rfl) fun W F => ?_
  refine G_vec (l := 2) rfl fun hcap _ => ?_
  refine G_run (kc := false) (ss := []) (Cs := []) trivial hmPl 900 ?_
  rw [qre_run]
  dsimp only at h
  cases ds with
  | nil =>
    dsimp only [List.length_nil, dTake] at *
    repeat' first
      | exact rfl
      | exact trivial
      | exact HEq.rfl
      | exact ⟨⟨aoL, capL, L, nx, aoD, capD, []⟩, fun W F w hr => Rep.dropR (h := rpE ⟨aoL, capL, L, nx, aoD, capD, []⟩ b) hr, h aoD capD⟩
      | (refine fun b1 => ?_)
      | apply And.intro
      | (show _ ≤ _; omega)
      | (show _ < _; omega)
      | fail
  | cons d ds =>
    have e0 : ((((d :: ds).length : Nat) : Int) == 0) = false := by simp; omega
    have g0 : ∀ z, (d :: ds).getD 0 z = d := fun _ => rfl
    simp only [e0, g0]
    rw [List.length_cons] at hcap
    have fin : ∀ (t : List Ent), (fun (h' : List Ent) (res : SV) => ∃ r', (∀ W F w, Rep W F h' w → Rep W F (rpE r' b) w) ∧ N r' res) (⟨.blk b, .cells [.vec 1 aoL L.length capL, .int .i64 nx, .sub 2 aoD capD 2 1 (d :: ds).length] 30⟩ :: ⟨.sl aoL capL, .vecL 62 2 encRpt L zP⟩ :: ⟨.sl aoD capD, .vecL 49 2 encDN (d :: ds) DN.zero⟩ :: pk 0 (L.map cnE) :: t) (.tuple [.agg [.int .i64 d.pid, .str d.text], .bool true]) := fun t => by
      refine ⟨_, fun W F w hr => ?_, h (cutA aoD capD 2 1) (capD - 1)⟩
      have a1 := Rep.cut (l := 2) (k := 1) rfl (by simp) hr
      have a2 := Rep.cellsEq (l := 0) (cs' := [.vec 1 aoL L.length capL, .int .i64 nx, .vec 2 (cutA aoD capD 2 1) ds.length (capD - 1)]) rfl (by simp [denL, den_cut]) a1
      exact Rep.dropR (h := rpE ⟨aoL, capL, L, nx, cutA aoD capD 2 1, capD - 1, ds⟩ b) a2
    repeat' first
      | exact rfl
      | exact trivial
      | exact HEq.rfl
      | exact fin _
      | (simp only [List.length_cons]; omega)
      | (refine fun b1 => ?_)
      | apply And.intro
      | (show _ ≤ _; omega)
      | (show _ < _; omega)
      | fail
end Go.Proofs.Ytkcmgcoppecfpaa

/- PortPlays: the contracts of what it calls. -/
namespace Go.Proofs.Ytkcmgcoppecfpaa
open Go Go.RowKit
open Go.Maps Go.Sort Go.Shelf
theorem hmPt : Try.prog.follows .mixedOrders = true := by kernel_rfl
theorem port1_ok : AllOk Try.prog port1 := ⟨inl_ok trivial hmPt Try.func73 (by kernel_rfl), inl_ok trivial hmPt Try.func74 (by kernel_rfl),
  inl_ok trivial hmPt Try.func71 (by kernel_rfl), inl_ok trivial hmPt Try.func72 (by kernel_rfl), trivial⟩
theorem port2_ok : AllOk Try.prog port2 := ⟨inl_ok trivial hmPt Try.func11 (by kernel_rfl), inl_ok port1_ok hmPt Try.func20 (by kernel_rfl), inl_ok port1_ok hmPt Try.func22 (by kernel_rfl),
  inl_ok port1_ok hmPt Try.func24 (by kernel_rfl), inl_ok port1_ok hmPt Try.func12 (by kernel_rfl), inl_ok port1_ok hmPt Try.func16 (by kernel_rfl),
  inl_ok port1_ok hmPt Try.func18 (by kernel_rfl), port1_ok⟩

theorem known10_ok : CtrOk Try.prog 10 tru10C := by
  intro args hs N h
  unfold tru10C at h
  split at h
  · refine Spec.pure (Cs := port2) (kc := false) (ss := []) 600 55 port2_ok hmPt Try.func10 (by kernel_rfl) (by kernel_rfl) rfl h fun K => ?_
    rw [known10_run]
    repeat' first
      | exact rfl
      | exact trivial
      | assumption
      | intro _
      | apply And.intro
      | decide
  · exact h.elim
theorem texts_ok : CtrOk Try.prog 30 textsC := by
  intro args hs N h
  unfold textsC at h
  split at h
  case h_2 => exact h.elim
  rename_i l ao n cap l' ao' n' cap'
  obtain ⟨xs, h1, h2, ⟨hne, rfl, rfl, hx⟩, h⟩ := h
  refine Spec.at (hp := [⟨.sl ao cap, .vecL 9 1 encS xs ByteArray.empty⟩, ⟨.sl ao' cap', .vecL 9 1 encS xs ByteArray.empty⟩]) (args' := [.vec 0 ao xs.length cap, .vec 1 ao' xs.length cap']) (Post' := fun h' r => h' = [⟨.sl ao cap, .vecL 9 1 encS xs ByteArray.empty⟩, ⟨.sl ao' cap', .vecL 9 1 encS xs ByteArray.empty⟩] ∧ r = .bool true) [l, l'] (by
    have : l ≠ l' := fun e => by
      subst e
      simp at hne
    simpa [distinct] using this) (by simp [pickE, h1, h2]) ?_ rfl ?_
  · refine Spec.up ?_
    refine Spec.of_G 26 Try.func30 (c := bodyOf Try.f30) (by kernel_rfl) (by kernel_rfl) (Nat.le_of_ble_eq_true rfl) fun W F => ?_
    refine G_run (kc := false) (ss := []) (Cs := []) trivial hmPt 600 ?_
    rw [texts_run]
    have : ((xs.length : Int) != (xs.length : Int)) = false := by simp
    rw [this]
    refine G_loopAt (ι := Nat) [] (bodyOf Try.f30) [1, 1, 0, 1, 0] 26 (fun i => [(0, .vec 0 ao xs.length cap), (1, .vec 1 ao' xs.length cap'), (5, .int .i64 (i : Int))]) (fun i => [⟨.sl ao cap, .vecL 9 1 encS xs ByteArray.empty⟩, ⟨.sl ao' cap', .vecL 9 1 encS xs ByteArray.empty⟩]) (fun i => i ≤ xs.length) (fun i => xs.length - i) 0 (by kernel_rfl) (fun J => by kernel_rfl) (Nat.zero_le _) rfl ⟨rfl, rfl, rfl, trivial⟩ (fun w hw => hw) ?_
    intro i hi u
    try dsimp only at hi ⊢
    simp only [List.nil_append, List.cons_append]
    refine G_run (kc := false) (ss := []) (Cs := []) trivial hmPt 900 ?_
    rw [texts_body]
    cases hlt : decide ((i : Int) < (xs.length : Int)) with
    | false => exact ⟨_, .bool true, fun W F w hr => hr, rfl, rfl, rfl⟩
    | true =>
      simp only [decide_eq_true_eq] at hlt
      have w1 : IntKind.wrap .i64 ((i : Int) + 1) = ((i + 1 : Nat) : Int) := IntWalk.i64_in _ (by omega)
      have e : (!sEq (xs.getD (Int.toNat (i : Int)) ByteArray.empty) (xs.getD (Int.toNat (i : Int)) ByteArray.empty)) = false := by rw [(sEqG _ _).2 rfl]; rfl
      refine ⟨⟨rfl, rfl, rfl, by omega, by omega⟩, ⟨rfl, rfl, rfl, by omega⟩, ⟨rfl, rfl, rfl, by omega, by omega⟩, ⟨rfl, rfl, rfl, by omega⟩, ?_⟩
      rw [e]
      exact G_back (i + 1) (by omega) (by omega) rfl ⟨rfl, rfl, congrArg (Value.int .i64) w1, trivial⟩ (fun w hw => hw)
  · rintro h' r ⟨rfl, rfl⟩
    refine ⟨Nat.le_refl _, _, rfl, ?_⟩
    simpa [putBack, appE_eq, setN_selfP h1, setN_selfP h2] using h
theorem conns_ok : CtrOk Try.prog 25 connsC := by
  intro args hs N h
  unfold connsC at h
  split at h
  case h_3 => exact h.elim
  case h_2 =>
    rename_i l ao n cap
    obtain ⟨rfl, h⟩ := h
    refine Spec.at (hp := []) (args' := [.vec 0 ao 0 cap, .raw (.slice none 0 0)]) (Post' := fun h' r => h' = [] ∧ r = .bool true) [] rfl rfl ?_ rfl ?_
    · refine Spec.up ?_
      refine Spec.of_G 26 Try.func25 (c := bodyOf Try.f25) (by kernel_rfl) (by kernel_rfl) (Nat.le_of_ble_eq_true rfl) fun W F => ?_
      refine G_run (kc := false) (ss := []) (Cs := []) trivial hmPt 600 ?_
      rw [conns_nilr]
      refine G_loopAt (ι := Unit) [] (bodyOf Try.f25) [1, 1, 0, 1, 0] 26 (fun _ => [(0, .vec 0 ao 0 cap), (1, .raw (.slice none 0 0)), (5, .int .i64 0)]) (fun _ => []) (fun _ => True) (fun _ => 0) () (by kernel_rfl) (fun J => by kernel_rfl) trivial rfl ⟨rfl, rfl, rfl, trivial⟩ (fun w hw => hw) ?_
      intro _ _ u
      simp only [List.nil_append, List.cons_append]
      refine G_run (kc := false) (ss := []) (Cs := []) trivial hmPt 900 ?_
      rw [conns_nilb]
      exact ⟨_, .bool true, fun W F w hr => hr, rfl, rfl, rfl⟩
    · rintro h' r ⟨rfl, rfl⟩
      refine ⟨Nat.le_refl _, _, rfl, ?_⟩
      simpa [putBack, appE_eq] using h
  rename_i l ao n cap l' ao' n' cap'
  obtain ⟨xs, h1, h2, ⟨hne, rfl, rfl, hx⟩, h⟩ := h
  refine Spec.at (hp := [⟨.sl ao cap, .vecL 41 2 encCN xs CN.zero⟩, ⟨.sl ao' cap', .vecL 41 2 encCN xs CN.zero⟩]) (args' := [.vec 0 ao xs.length cap, .vec 1 ao' xs.length cap']) (Post' := fun h' r => h' = [⟨.sl ao cap, .vecL 41 2 encCN xs CN.zero⟩, ⟨.sl ao' cap', .vecL 41 2 encCN xs CN.zero⟩] ∧ r = .bool true) [l, l'] (by
    have : l ≠ l' := fun e => by
      subst e
      simp at hne
    simpa [distinct] using this) (by simp [pickE, h1, h2]) ?_ rfl ?_
  · refine Spec.up ?_
    refine Spec.of_G 26 Try.func25 (c := bodyOf Try.f25) (by kernel_rfl) (by kernel_rfl) (Nat.le_of_ble_eq_true rfl) fun W F => ?_
    refine G_run (kc := false) (ss := []) (Cs := []) trivial hmPt 600 ?_
    rw [conns_run]
    have : ((xs.length : Int) != (xs.length : Int)) = false := by simp
    rw [this]
    refine G_loopAt (ι := Nat) [] (bodyOf Try.f25) [1, 1, 0, 1, 0] 26 (fun i => [(0, .vec 0 ao xs.length cap), (1, .vec 1 ao' xs.length cap'), (5, .int .i64 (i : Int))]) (fun i => [⟨.sl ao cap, .vecL 41 2 encCN xs CN.zero⟩, ⟨.sl ao' cap', .vecL 41 2 encCN xs CN.zero⟩]) (fun i => i ≤ xs.length) (fun i => xs.length - i) 0 (by kernel_rfl) (fun J => by kernel_rfl) (Nat.zero_le _) rfl ⟨rfl, rfl, rfl, trivial⟩ (fun w hw => hw) ?_
    intro i hi u
    try dsimp only at hi ⊢
    simp only [List.nil_append, List.cons_append]
    refine G_run (kc := false) (ss := []) (Cs := []) trivial hmPt 900 ?_
    rw [conns_body]
    cases hlt : decide ((i : Int) < (xs.length : Int)) with
    | false => exact ⟨_, .bool true, fun W F w hr => hr, rfl, rfl, rfl⟩
    | true =>
      simp only [decide_eq_true_eq] at hlt
      have w1 : IntKind.wrap .i64 ((i : Int) + 1) = ((i + 1 : Nat) : Int) := IntWalk.i64_in _ (by omega)
      have e : ∀ y : CN, (!(y.1 == y.1 && (sEq y.2 y.2 && true))) = false := fun y => by rw [(sEqG _ _).2 rfl]; simp
      refine ⟨⟨rfl, rfl, rfl, by omega, by omega⟩, ⟨rfl, rfl, rfl, by omega, rfl⟩, ⟨rfl, rfl, rfl, by omega, by omega⟩, ⟨rfl, rfl, rfl, by omega, rfl⟩, ?_⟩
      rw [e]
      exact G_back (i + 1) (by omega) (by omega) rfl ⟨rfl, rfl, congrArg (Value.int .i64) w1, trivial⟩ (fun w hw => hw)
  · rintro h' r ⟨rfl, rfl⟩
    refine ⟨Nat.le_refl _, _, rfl, ?_⟩
    simpa [putBack, appE_eq, setN_selfP h1, setN_selfP h2] using h
theorem newPs_ok : CtrOk Try.prog 11 newPsC := by
  intro args hs N h
  unfold newPsC at h
  split at h
  case h_2 => exact h.elim
  refine Spec.at (hp := []) (args' := []) (Post' := fun h' r => ∃ b bm, h' = [pkA b psE ⟨bm, [], none, 0, [], 0⟩] ∧ r = .ptr 0 b 0) [] rfl rfl ?_ rfl ?_
  · refine Spec.up ?_
    refine Spec.of_G 4 Try.func11 (c := bodyOf Try.f11) (by kernel_rfl) (by kernel_rfl) (Nat.le_of_ble_eq_true rfl) fun W F => ?_
    refine G_run (kc := false) (ss := []) (Cs := []) trivial hmPt 600 ?_
    rw [pnew_run]
    refine fun bm => ⟨⟨rfl, rfl⟩, rfl, fun b => ⟨[pkA b psE ⟨bm, [], none, 0, [], 0⟩], .ptr 0 b 0, fun W F w hr => ?_, rfl, b, bm, rfl, rfl⟩⟩
    have h1 := Rep.mapOf (l := 0) encPq ([] : List (Key × Nat)) rfl rfl hr
    have h2 := Rep.nilvec 49 (sz := 2) (enc := encDN) DN.zero (fun _ => rfl) h1
    have h3 : Rep W F (pk 0 [] :: _) w := Rep.pk 0 (h := []) h2
    have h4 := Rep.pick (π := [2, 1, 3, 0]) (by decide) rfl h3
    have h5 := Rep.cellsEq (l := 0) (cs' := [.map 1 bm, .vec 2 none 0 0, .int .i64 0]) rfl (by rfl) h4
    exact Rep.pkA (S := psE) (s := ⟨bm, [], none, 0, [], 0⟩) (b := b) (t := []) h5
  · rintro h' r ⟨b, bm, rfl, rfl⟩
    refine ⟨Nat.zero_le _, .ptr (lenN hs) b 0, rfl, ?_⟩
    have := h b bm
    simpa [putBack, appE_eq, snoc_eq] using this
def ptR (ba : Nat) (ns : List ByteArray) (i : Nat) : List Ent := [exP fun p : Option Addr × Nat => [⟨.blk ba, .cells [.vec 1 p.1 i p.2] 56⟩, ⟨.sl p.1 p.2, .vecL 9 1 encS (ns.take i) ByteArray.empty⟩]]
theorem pt_V {ba : Nat} {ns : List ByteArray} (hn : ns.length ≤ 150) : OneS (.func (.func 29) #[] (denL [.ptr 2 ba 0]).toArray) ns (ptR ba ns) (fun _ => False) := by
  intro i x hxi
  obtain ⟨hi, he⟩ := List.getElem?_eq_some_iff.1 hxi
  refine VSpec.fn (by kernel_rfl) ?_
  refine Spec.ex (ι := Option Addr × Nat) (hs' := fun p => [⟨.blk ba, .cells [.vec 1 p.1 (ns.take i).length p.2] 56⟩, ⟨.sl p.1 p.2, .vecL 9 1 encS (ns.take i) ByteArray.empty⟩]) (fun W F w hr => ?_) fun p => ?_
  · have h1 : Rep W F (ptR ba ns i ++ []) w := Rep.unpk (t := []) hr
    obtain ⟨p, hp⟩ := Rep.unex (t := []) h1
    refine ⟨p, ?_⟩
    have e : (ns.take i).length = i := by simp; omega
    rw [e]
    exact hp
  refine Spec.up ?_
  refine Spec.pre (hs' := [⟨.blk ba, .cells [.vec 1 p.1 (ns.take i).length p.2] 56⟩, ⟨.sl p.1 p.2, .vecL 9 1 encS (ns.take i) ByteArray.empty⟩]) (args' := [.str x, .ptr 0 ba 0]) (fun W F w hr => hr) rfl ?_
  refine Spec.of_G 11 Try.func29 (c := bodyOf Try.f29) (by kernel_rfl) (by kernel_rfl) (Nat.le_of_ble_eq_true rfl) fun W F => ?_
  refine G_run (kc := true) (ss := []) (Cs := []) trivial hmPt 600 ?_
  rw [pp1_run]
  have e : (ns.take i).length = i := by simp; omega
  have hd : decide ((((ns.take i).length + 1 : Nat) : Int) < 200) = true := decide_eq_true (by omega)
  rw [hd]
  have fin : ∀ (ao2 : Option Addr) (cap2 : Nat) (t : List Ent), up (fun h r => (h = [pk 0 (ptR ba ns (i + 1))] ∧ r = .bool true) ∨ ∃ R', False ∧ h = [pk 0 R'] ∧ r = .bool false) (⟨.blk ba, .cells [.vec 1 ao2 ((ns.take i).length + 1) cap2] 56⟩ :: ⟨.sl ao2 cap2, .vecL 9 1 encS (ns.take i ++ [x]) ByteArray.empty⟩ :: t) (.bool true) := fun ao2 cap2 t => by
    refine ⟨[pk 0 (ptR ba ns (i + 1))], .bool true, fun W F w hr => ?_, rfl, .inl ⟨rfl, rfl⟩⟩
    have e2 : ns.take i ++ [x] = ns.take (i + 1) := by rw [List.take_succ_eq_append_getElem hi, he]
    rw [e2, e] at hr
    have h1 : Rep W F ([⟨.blk ba, .cells [.vec 1 ao2 (i + 1) cap2] 56⟩, ⟨.sl ao2 cap2, .vecL 9 1 encS (ns.take (i + 1)) ByteArray.empty⟩] ++ []) w := Rep.dropR (h := [_, _]) hr
    have h2 : Rep W F (ptR ba ns (i + 1) ++ []) w := Rep.ex (t := []) (ao2, cap2) h1
    exact Rep.pk 0 (t := []) h2
  repeat' first
    | exact rfl
    | exact trivial
    | (refine ⟨[x], rfl, rfl, fun ao2 cap2 _ => ?_⟩)
    | exact fin _ _ _
    | apply And.intro
    | (refine fun _ => ?_)
    | (show _ ≤ _; omega)
    | (show _ < _; omega)
    | fail
theorem listC_ok : CtrOk Try.prog 76 listC := by
  intro args hs N h
  unfold listC at h
  split at h
  case h_2 => exact h.elim
  rename_i g la ba lb bx
  obtain ⟨rfl, s, r, k, lp, bp, h1, h2, h3, hd, ⟨hPL, hk⟩, hN⟩ := h
  refine Spec.at (hp := [pkA bp psE s, ⟨.blk bx, .cells [.ptr lp bp 0] 24⟩, ⟨.blk ba, .cells [.raw (.slice none 0 0)] 56⟩]) (args' := [.func (.func 29) [] [.ptr 2 ba 0], .ptr 1 bx 0]) (Post' := fun h' res => ∃ ao cap, h' = [pkA bp psE s, ⟨.blk bx, .cells [.ptr lp bp 0] 24⟩, ⟨.blk ba, .cells [.vec (lenN hs) ao r.L.length cap] 56⟩, ⟨.sl ao cap, .vecL 9 1 encS (r.L.map RPt.name) ByteArray.empty⟩] ∧ res = .tuple []) [lp, lb, la] hd (by simp [pickE, h1, h2, h3]) ?_ rfl ?_
  · intro W F w hr
    have hnm := hPL.names
    have hlen := hPL.len
    have hll : (r.L.map RPt.name).length = r.L.length := by simp
    have hV := pt_V (ba := ba) (ns := r.L.map RPt.name) (by rw [hll]; omega)
    have hr1 : Rep W F [pkA bp psE s, ⟨.blk bx, .cells [.ptr 0 bp 0] 24⟩, pk 0 (ptR ba (r.L.map RPt.name) 0)] w := by
      have g1 := Rep.cellsEq (l := 1) (cs' := [.ptr 0 bp 0]) rfl (by rfl) hr
      have g2 := Rep.nilvec 9 (sz := 1) (enc := encS) ByteArray.empty (fun _ => rfl) g1
      have g3 := Rep.cellsEq (l := 2) (cs' := [.vec 1 none 0 0]) rfl (by rfl) g2
      have g4 := Rep.pick (π := [2, 3, 0, 1]) (by decide) rfl g3
      have g5 : Rep W F (ptR ba (r.L.map RPt.name) 0 ++ [pkA bp psE s, ⟨.blk bx, .cells [.ptr 0 bp 0] 24⟩]) w := Rep.ex (t := [_, _]) (none, 0) g4
      have g6 := Rep.pk 0 g5
      exact Rep.pick (π := [1, 2, 0]) (by decide) rfl g6
    refine Calls.mono (allP_iter (bx := bx) ⟨_, _, _, rfl⟩ (hPL.wfs (by omega)) (by rw [hnm, hll]; omega) (by rw [hnm]; exact hV) W F w hr1) ?_
    rintro e w' ⟨h', res, ⟨rfl, hc⟩, rfl, hr'⟩
    rcases hc with rfl | ⟨R', hs, rfl⟩
    · rw [hnm] at hr'
      have g0 := Rep.pick (π := [2, 0, 1]) (by decide) rfl hr'
      have g1 : Rep _ _ (ptR ba (r.L.map RPt.name) (r.L.map RPt.name).length ++ _) w' := Rep.unpk g0
      obtain ⟨⟨ao, cap⟩, g2⟩ := Rep.unex (t := [_, _]) g1
      rw [List.take_length, hll] at g2
      have g3 := Rep.pick (π := [2, 3, 0, 1]) (by decide) rfl g2
      have g4 := Rep.cellsEq (l := 2) (cs' := [.vec (lenN hs) ao r.L.length cap]) rfl (by rfl) g3
      have g5 := Rep.cellsEq (l := 1) (cs' := [.ptr lp bp 0]) rfl (by rfl) g4
      exact ⟨_, .tuple [], ⟨ao, cap, rfl, rfl⟩, rfl, g5⟩
    · exact hs.elim
  · rintro h' res ⟨ao, cap, rfl, rfl⟩
    refine ⟨by simp [lenN], .tuple [], rfl, ?_⟩
    have e : putBack [lp, lb, la] hs [pkA bp psE s, ⟨.blk bx, .cells [.ptr lp bp 0] 24⟩, ⟨.blk ba, .cells [.vec (lenN hs) ao r.L.length cap] 56⟩, ⟨.sl ao cap, .vecL 9 1 encS (r.L.map RPt.name) ByteArray.empty⟩] = snoc (setN hs la ⟨.blk ba, .cells [.vec (lenN hs) ao r.L.length cap] 56⟩) ⟨.sl ao cap, .vecL 9 1 encS (r.L.map RPt.name) ByteArray.empty⟩ := by
      simp only [putBack, appE_eq, snoc_eq]
      rw [setN_selfP h3, setN_selfP h2]
    rw [e]
    exact hN ao cap
theorem plT_ok : AllOk Try.prog plT := ⟨known10_ok, newPs_ok, conns_ok, texts_ok, pLi_ok, pCl_ok, pCo_ok, pAc_ok, pSe_ok, pRe_ok, pDg_ok, pWa_ok, qLi_ok, qCl_ok, qCo_ok, qAc_ok, qSe_ok, qRe_ok, inl_ok qwT_ok hmPt Try.func27 (by kernel_rfl), inl_ok trivial hmPt Try.func28 (by kernel_rfl), listC_ok, trivial⟩
end Go.Proofs.Ytkcmgcoppecfpaa

