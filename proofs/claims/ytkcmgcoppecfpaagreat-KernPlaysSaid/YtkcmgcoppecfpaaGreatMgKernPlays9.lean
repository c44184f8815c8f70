import Derived.Test.YtkcmgcoppecfpaaGreatMgKernPlays6
import Derived.Test.YtkcmgcoppecfpaaGreatMgKernPlays7
import Derived.Test.YtkcmgcoppecfpaaGreatMgKernPlays8
import Derived.Test.YtkcmgcoppecfpaaGreatMgKernPlays5
set_option linter.unusedVariables false
set_option linter.unusedSimpArgs false
set_option linter.unnecessarySimpa false
set_option maxHeartbeats 0
set_option maxRecDepth 100000
/- kern.Kernel: what its methods do. -/
namespace Go.Proofs.YtkcmgcoppecfpaaGreat
open Go Go.RowKit
open Go.Maps Go.Sort Go.Shelf
theorem hmK : Tryz.prog.follows .mixedOrders = true := by kernel_rfl
theorem insQ_perm (x : Int) : ∀ l : List Int, (insQ x l).Perm (x :: l)
  | [] => List.Perm.refl _
  | y :: l => by
    unfold insQ
    split
    · exact List.Perm.refl _
    · exact ((insQ_perm x l).cons y).trans (List.Perm.swap x y l)
theorem insQ_asc (x : Int) : ∀ {l : List Int}, l.Pairwise (· ≤ ·) → (insQ x l).Pairwise (· ≤ ·)
  | [], _ => List.pairwise_singleton _ _
  | y :: l, h => by
    have hc := List.pairwise_cons.1 h
    unfold insQ
    split
    · rename_i hd
      simp only [decide_eq_true_eq] at hd
      refine List.pairwise_cons.2 ⟨fun z hz => ?_, h⟩
      rcases List.mem_cons.1 hz with rfl | hz
      · exact hd
      · have := hc.1 z hz; omega
    · rename_i hd
      simp only [decide_eq_false_iff_not] at hd
      refine List.pairwise_cons.2 ⟨fun z hz => ?_, insQ_asc x hc.2⟩
      rcases List.mem_cons.1 ((insQ_perm x l).mem_iff.1 hz) with rfl | hz
      · omega
      · exact hc.1 z hz
theorem sortQ_perm : ∀ l : List Int, (sortQ l).Perm l
  | [] => List.Perm.refl _
  | x :: l => (insQ_perm x _).trans ((sortQ_perm l).cons x)
theorem sortQ_asc : ∀ l : List Int, (sortQ l).Pairwise (· ≤ ·)
  | [] => List.Pairwise.nil
  | x :: l => insQ_asc x (sortQ_asc l)
theorem memQ_eq (s : Grp) (n : ByteArray) : memQ s n = memG s n := by
  unfold memQ memG
  cases mget s.gs (.s n) with
  | none => rfl
  | some x =>
    dsimp only
    unfold sortI
    rw [mergeSort_of_perm_i (sortQ_perm (x.2.map fun e => keyInt e.1)).symm]
    refine (List.mergeSort_of_pairwise ?_).symm
    exact (sortQ_asc _).imp fun {x y} h => by simp [leI]; omega
theorem memQC_eq : membersQC = membersNC := by
  funext args hs N
  unfold membersQC membersNC
  simp only [memQ_eq] <;> rfl
theorem gMbQ_ok : CtrOk Tryz.prog 18 membersQC := by
  rw [memQC_eq]
  exact gMb_ok
theorem gsOk.mem {s : Grp} (h : gsOk s) (n : ByteArray) : memGOk s n := fun x hx => (h.2.2.2 n x hx).1
theorem gsOk.len {s : Grp} (h : gsOk s) : (sortS s.gs).length ≤ 1000000 := by
  unfold sortS
  simp only [List.length_map, List.length_mergeSort]
  exact h.2.1
theorem baQ {a b : ByteArray} (h : a.data.toList = b.data.toList) : a = b := by
  cases a; cases b
  simp only [ByteArray.mk.injEq]
  exact Array.ext' h
theorem gsOk.names {s : Grp} (h : gsOk s) (g : ByteArray) : g ∈ sortS s.gs ↔ (mget s.gs (.s g)).isSome = true := by
  have hp := List.mergeSort_perm (s.gs.map fun e => keyStr e.1) leB
  unfold sortS
  rw [Option.isSome_iff_exists, List.mem_map]
  constructor
  · rintro ⟨k, hk, rfl⟩
    obtain ⟨e, he, rfl⟩ := List.mem_map.1 (hp.mem_iff.1 hk)
    have hkd := h.2.2.1 e he
    obtain ⟨k, v⟩ := e
    cases k with
    | i a c => cases hkd
    | s n =>
      have e1 : ofB (keyStr (.s n)) = n := by
        show ofB n.data.toList = n
        unfold ofB
        exact baQ (by simp)
      dsimp only
      rw [e1]
      exact ⟨v, mget_of_mem h.1.1 he⟩
  · rintro ⟨x, hx⟩
    obtain ⟨k', h2, h3⟩ := mget_mem hx
    have e1 := keyEq_s h3
    subst e1
    refine ⟨keyStr (.s g), hp.mem_iff.2 (List.mem_map.2 ⟨_, h2, rfl⟩), ?_⟩
    show ofB g.data.toList = g
    unfold ofB
    exact baQ (by simp)
theorem sEqK (a b : ByteArray) : sEq a b = true ↔ a = b := by
  constructor
  · intro h
    simp only [sEq, beq_iff_eq] at h
    have e : ∀ x : ByteArray, x.toList = x.data.toList := fun x => ByteArray.toList_eq x
    rw [e, e] at h
    exact baQ h
  · rintro rfl; simp [sEq]
/-! ### Is a group there? -/
def kgI (ns : List ByteArray) (g : ByteArray) (i : Nat) : Type := { _u : Unit // g ∉ ns.take i }
def kgR (b bg : Nat) (c0 c2 c3 c4 c5 : SV) (g : ByteArray) (b3 b4 D l : Nat) (rc : Loop) (ns : List ByteArray) (i : Nat) : List Ent := [exP fun _ : kgI ns g i => [⟨.blk b, .cells [c0, .ptr 0 bg 0, c2, c3, c4, c5] 96⟩, ⟨.blk b3, .cells [.str g] 9⟩, ⟨.blk b4, .cells [.bool false] 4⟩, dent D true, lp l rc .ready none]]
section
variable {b bg : Nat} {c0 c2 c3 c4 c5 : SV} {s : Grp} {g : ByteArray} {b3 b4 D l : Nat} {rc : Loop} {T : List SV}
theorem kg_V (hrt : rc.tmps = (denL T).toArray) (hrp : rc.params = rfP (codeAt (bodyOf Tryz.f52) [1, 0, 1, 0])) (hra : rc.assign = rfA (codeAt (bodyOf Tryz.f52) [1, 0, 1, 0])) (hrb : rc.body = rfB (codeAt (bodyOf Tryz.f52) [1, 0, 1, 0]))
    (hl : ∀ v w, lenN (setMany T [11, 12] [v, w]) = 16 ∧ liveOk (setMany T [11, 12] [v, w]) [(3, .ptr 2 b3 0), (4, .ptr 3 b4 0), (11, v), (12, w)]) :
    OneG (.func (.yield l) #[] #[]) s bg (sortS s.gs) (kgR b bg c0 c2 c3 c4 c5 g b3 b4 D l rc (sortS s.gs)) (fun R' => g ∈ sortS s.gs ∧ R' = [⟨.blk b, .cells [c0, .ptr 0 bg 0, c2, c3, c4, c5] 96⟩, ⟨.blk b3, .cells [.str g] 9⟩, ⟨.blk b4, .cells [.bool true] 4⟩, dent D true, lp l rc .done (some .ret)]) := by
  intro i x hxi ao cap
  obtain ⟨hi, he⟩ := List.getElem?_eq_some_iff.1 hxi
  refine .inr ⟨l, rfl, YSpec.ex (ι := kgI (sortS s.gs) g i) (hs' := fun _ => [pkA bg grpE s, ⟨.blk b, .cells [c0, .ptr 0 bg 0, c2, c3, c4, c5] 96⟩, ⟨.blk b3, .cells [.str g] 9⟩, ⟨.blk b4, .cells [.bool false] 4⟩, dent D true, lp l rc .ready none, ⟨.sl ao cap, .vecL 3 1 encI1 (memG s x) 0⟩]) (fun W F w hr => ?_) ?_⟩
  · have h1 := Rep.unpkAt (p := [_]) (t := [_]) hr
    have h2 := Rep.pick (π := [1, 0, 2]) (by decide) rfl h1
    obtain ⟨j, h3⟩ := Rep.unex (t := [_, _]) h2
    exact ⟨j, Rep.pick (π := [5, 0, 1, 2, 3, 4, 6]) (by decide) rfl h3⟩
  rintro ⟨_, hni⟩
  refine YSpec.up (YSpec.of_GR (p := 5) (T0 := T) (ps := [11, 12]) rfl hrt hrp hra hrb rfl rfl fun W F => ?_)
  refine GR_live 16 [(3, .ptr 2 b3 0), (4, .ptr 3 b4 0), (11, .str x), (12, .vec 6 ao (memG s x).length cap)] [pkA bg grpE s, ⟨.blk b, .cells [c0, .ptr 0 bg 0, c2, c3, c4, c5] 96⟩, ⟨.blk b3, .cells [.str g] 9⟩, ⟨.blk b4, .cells [.bool false] 4⟩, dent D true, lp l rc .ready none, ⟨.sl ao cap, .vecL 3 1 encI1 (memG s x) 0⟩] (hl _ _).1 (hl _ _).2 (fun _ h => h) fun u => ?_
  refine runR_sound (kc := true) (ss := []) (Cs := []) (Y := noY) (K := fun _ _ => False) (fun _ _ h => h.elim) trivial (noY_ok _) hmK Ends.assign 60 _ _ ?_
  rw [kg_asg]
  refine ⟨rfl, ?_⟩
  refine GR_live 16 [(3, .ptr 2 b3 0), (4, .ptr 3 b4 0), (5, .str x)] [pkA bg grpE s, ⟨.blk b, .cells [c0, .ptr 0 bg 0, c2, c3, c4, c5] 96⟩, ⟨.blk b3, .cells [.str g] 9⟩, ⟨.blk b4, .cells [.bool false] 4⟩, dent D true, lp l rc .busy none, ⟨.sl ao cap, .vecL 3 1 encI1 (memG s x) 0⟩] rfl ⟨rfl, rfl, rfl, trivial⟩ (fun w hr => hr) fun u => ?_
  refine runR_sound (kc := true) (ss := []) (Cs := []) (Y := noY) (K := fun _ _ => False) (fun _ _ h => h.elim) trivial (noY_ok _) hmK (Ends.round (p := 5) (rc := rc) (j := none)) 600 _ _ ?_
  rw [kg_body]
  refine ⟨rfl, ?_⟩
  cases hc : sEq x g with
  | true =>
    have hx : x = g := (sEqK _ _).1 hc
    refine ⟨⟨rfl, rfl, rfl, Nat.le_refl _⟩, rfl, [pkA bg grpE s, pk 0 [⟨.blk b, .cells [c0, .ptr 0 bg 0, c2, c3, c4, c5] 96⟩, ⟨.blk b3, .cells [.str g] 9⟩, ⟨.blk b4, .cells [.bool true] 4⟩, dent D true, lp l rc .done (some .ret)], ⟨.sl ao cap, .vecL 3 1 encI1 (memG s x) 0⟩], .bool false, fun W F w hr => ?_, rfl, .inr ⟨_, ⟨?_, rfl⟩, rfl, rfl⟩⟩
    · exact Rep.pkAt 0 (p := [_]) (h := [_, _, _, _, _]) (t := [_]) hr
    · rw [← hx, ← he]; exact List.getElem_mem hi
  | false =>
    have hx : g ≠ x := fun e => by
      rw [(sEqK x g).2 e.symm] at hc; cases hc
    have hni2 : g ∉ (sortS s.gs).take (i + 1) := by
      rw [List.take_succ_eq_append_getElem hi, he, List.mem_append]
      rintro (h | h)
      · exact hni h
      · exact hx (List.mem_singleton.1 h)
    refine ⟨rfl, [pkA bg grpE s, pk 0 (kgR b bg c0 c2 c3 c4 c5 g b3 b4 D l rc (sortS s.gs) (i + 1)), ⟨.sl ao cap, .vecL 3 1 encI1 (memG s x) 0⟩], .bool true, fun W F w hr => ?_, rfl, .inl ⟨rfl, rfl⟩⟩
    have h1 := Rep.pick (π := [1, 2, 3, 4, 5, 0, 6]) (by decide) rfl hr
    have h2 : Rep W F ([exP fun _ : kgI (sortS s.gs) g (i + 1) => [⟨.blk b, .cells [c0, .ptr 0 bg 0, c2, c3, c4, c5] 96⟩, ⟨.blk b3, .cells [.str g] 9⟩, ⟨.blk b4, .cells [.bool false] 4⟩, dent D true, lp l rc .ready none]] ++ [_, _]) w := Rep.ex (f := fun _ : kgI (sortS s.gs) g (i + 1) => [⟨.blk b, .cells [c0, .ptr 0 bg 0, c2, c3, c4, c5] 96⟩, ⟨.blk b3, .cells [.str g] 9⟩, ⟨.blk b4, .cells [.bool false] 4⟩, dent D true, lp l rc .ready none]) ⟨(), hni2⟩ h1
    have h3 := Rep.pick (π := [1, 0, 2]) (by decide) rfl h2
    exact Rep.pkAt 0 (p := [_]) (h := [_]) (t := [_]) h3
end
theorem kg_spec {b bg : Nat} {c0 c2 c3 c4 c5 : SV} {s : Grp} {g : ByteArray} (ho : gsOk s) : Spec Tryz.prog 52 [⟨.blk b, .cells [c0, .ptr 1 bg 0, c2, c3, c4, c5] 96⟩, pkA bg grpE s] [.ptr 0 b 0, .str g] fun h' r => h' = [⟨.blk b, .cells [c0, .ptr 1 bg 0, c2, c3, c4, c5] 96⟩, pkA bg grpE s] ∧ r = .bool (mget s.gs (.s g)).isSome := by
  refine Spec.up ?_
  refine Spec.of_GR 16 Tryz.func52 (c := bodyOf Tryz.f52) (by kernel_rfl) (by kernel_rfl) (Nat.le_of_ble_eq_true rfl) fun W F => ?_
  refine runR_sound (kc := true) (ss := []) (Cs := [(82, inl Tryz.prog [] true Tryz.f82 200)]) (fun _ _ h => h) ⟨inl_ok trivial hmK Tryz.func82 (by kernel_rfl), trivial⟩ (noY_ok _) hmK Ends.fn 300 _ _ ?_
  rw [kg_start]
  refine ⟨rfl, fun b3 b4 => ⟨rfl, rfl, rfl, fun bx => ?_⟩⟩
  refine GR_rangeAt [] (bodyOf Tryz.f52) [1, 0, 1, 0] (f := 95) (first := []) (captured := [.ptr 4 bx 0]) (by kernel_rfl) (by kernel_rfl) (by kernel_rfl) fun D l rc hrt hrp hra hrb =>
    ⟨fun h _ => (g ∉ sortS s.gs ∧ h = [pkA bg grpE s, ⟨.blk b, .cells [c0, .ptr 0 bg 0, c2, c3, c4, c5] 96⟩, ⟨.blk b3, .cells [.str g] 9⟩, ⟨.blk b4, .cells [.bool false] 4⟩, dent D true, lp l rc .ready none, ⟨.blk bx, .cells [.ptr 0 bg 0] 28⟩]) ∨ (g ∈ sortS s.gs ∧ h = [pkA bg grpE s, ⟨.blk b, .cells [c0, .ptr 0 bg 0, c2, c3, c4, c5] 96⟩, ⟨.blk b3, .cells [.str g] 9⟩, ⟨.blk b4, .cells [.bool true] 4⟩, dent D true, lp l rc .done (some .ret), ⟨.blk bx, .cells [.ptr 0 bg 0] 28⟩]), ?_, ?_⟩
  · intro W F w hr
    have hV := kg_V (T := _) (l := l) (s := s) (b := b) (bg := bg) (c0 := c0) (c2 := c2) (c3 := c3) (c4 := c4) (c5 := c5) (g := g) (b3 := b3) (b4 := b4) (D := D) hrt hrp hra hrb fun v w => ⟨rfl, rfl, rfl, rfl, rfl, trivial⟩
    have h1 : Rep W F [pkA bg grpE s, ⟨.blk bx, .cells [.ptr 0 bg 0] 28⟩, pk 0 (kgR b bg c0 c2 c3 c4 c5 g b3 b4 D l rc (sortS s.gs) 0)] w := by
      have q1 := Rep.pick (π := [0, 2, 3, 5, 6, 1, 4]) (by decide) rfl hr
      have q2 := Rep.cellsEq (l := 0) (cs' := [c0, .ptr 0 bg 0, c2, c3, c4, c5]) rfl (by rfl) q1
      have q3 := Rep.cellsEq (l := 6) (cs' := [.ptr 0 bg 0]) rfl (by rfl) q2
      have q4 : Rep W F ([exP fun _ : kgI (sortS s.gs) g 0 => [⟨.blk b, .cells [c0, .ptr 0 bg 0, c2, c3, c4, c5] 96⟩, ⟨.blk b3, .cells [.str g] 9⟩, ⟨.blk b4, .cells [.bool false] 4⟩, dent D true, lp l rc .ready none]] ++ [_, _]) w := Rep.ex (f := fun _ : kgI (sortS s.gs) g 0 => [⟨.blk b, .cells [c0, .ptr 0 bg 0, c2, c3, c4, c5] 96⟩, ⟨.blk b3, .cells [.str g] 9⟩, ⟨.blk b4, .cells [.bool false] 4⟩, dent D true, lp l rc .ready none]) ⟨(), by simp⟩ q3
      have q5 := Rep.pick (π := [1, 2, 0]) (by decide) rfl q4
      exact Rep.pkAt 0 (p := [_, _]) (h := [_]) (t := []) q5
    refine Calls.mono (allG_iter (bx := bx) ⟨_, _, _, rfl⟩ ho.1 ho.len ho.mem hV W F w h1) ?_
    rintro e w' ⟨h', r, ⟨rfl, hc⟩, rfl, hr'⟩
    rcases hc with rfl | ⟨R', ⟨hg, rfl⟩, rfl⟩
    · have h7 := Rep.unpkAt (p := [_, _]) (t := []) hr'
      have h8 := Rep.pick (π := [2, 0, 1]) (by decide) rfl h7
      obtain ⟨⟨_, hn⟩, h9⟩ := Rep.unex (t := [_, _]) h8
      rw [List.take_length] at hn
      exact ⟨_, .tuple [], .inl ⟨hn, rfl⟩, rfl, Rep.pick (π := [5, 0, 1, 2, 3, 4, 6]) (by decide) rfl h9⟩
    · have h7 := Rep.unpkAt (p := [_, _]) (t := []) hr'
      exact ⟨_, .tuple [], .inr ⟨hg, rfl⟩, rfl, Rep.pick (π := [0, 2, 3, 4, 5, 6, 1]) (by decide) rfl h7⟩
  · have back : ∀ (z : Bool) (W : World) (F : List Ch) (w : World) (e : LoopState) (j : Option Code) (o : Bool), Rep W F [pkA bg grpE s, ⟨.blk b, .cells [c0, .ptr 0 bg 0, c2, c3, c4, c5] 96⟩, ⟨.blk b3, .cells [.str g] 9⟩, ⟨.blk b4, .cells [.bool z] 4⟩, dent D o, lp l rc e j] w → Rep W F [⟨.blk b, .cells [c0, .ptr 1 bg 0, c2, c3, c4, c5] 96⟩, pkA bg grpE s] w := fun z W F w e j o hr => by
      have q1 := Rep.pick (π := [1, 0]) (by decide) rfl hr
      exact Rep.cellsEq (l := 0) (cs' := [c0, .ptr 1 bg 0, c2, c3, c4, c5]) rfl (by rfl) q1
    rintro h' v (⟨hn, rfl⟩ | ⟨hg, rfl⟩)
    · have hs : (mget s.gs (.s g)).isSome = false := by
        rw [← Bool.not_eq_true, ← ho.names]; exact hn
      refine ⟨5, .ready, none, by decide, rfl, ?_⟩
      dsimp only
      refine GR_live 16 [(3, .ptr 2 b3 0), (4, .ptr 3 b4 0)] [pkA bg grpE s, ⟨.blk b, .cells [c0, .ptr 0 bg 0, c2, c3, c4, c5] 96⟩, ⟨.blk b3, .cells [.str g] 9⟩, ⟨.blk b4, .cells [.bool false] 4⟩, dent D true, lp l rc .exhausted none] rfl ⟨rfl, rfl, trivial⟩ (fun w hr => Rep.dropR (h := [_, _, _, _, _, _]) (t := [_]) hr) fun u => ?_
      refine runR_sound (Cs := []) (Y := noY) (kc := true) (ss := []) (K := fun _ _ => False) (fun _ _ h => h.elim) trivial (noY_ok _) hmK (Ends.fnM D 4) 900 _ _ ?_
      rw [kg_end]
      exact ⟨⟨rfl, rfl, rfl, Nat.le_refl _⟩, rfl, rfl, _, .bool false, fun W F w hr => back _ _ _ _ _ _ _ hr, rfl, rfl, by rw [hs]⟩
    · have hs : (mget s.gs (.s g)).isSome = true := (ho.names g).1 hg
      refine ⟨5, .done, some .ret, by decide, rfl, ?_⟩
      dsimp only
      refine GR_live 16 [(3, .ptr 2 b3 0), (4, .ptr 3 b4 0)] [pkA bg grpE s, ⟨.blk b, .cells [c0, .ptr 0 bg 0, c2, c3, c4, c5] 96⟩, ⟨.blk b3, .cells [.str g] 9⟩, ⟨.blk b4, .cells [.bool true] 4⟩, dent D true, lp l rc .exhausted (some .ret)] rfl ⟨rfl, rfl, trivial⟩ (fun w hr => Rep.dropR (h := [_, _, _, _, _, _]) (t := [_]) hr) fun u => ?_
      refine runR_sound (Cs := []) (Y := noY) (kc := true) (ss := []) (K := fun _ _ => False) (fun _ _ h => h.elim) trivial (noY_ok _) hmK (Ends.fnM D 4) 900 _ _ ?_
      rw [kg_ret]
      exact ⟨rfl, rfl, _, .bool true, fun W F w hr => back _ _ _ _ _ _ _ hr, rfl, rfl, by rw [hs]⟩
theorem grouped_ok : CtrOk Tryz.prog 52 groupedC := by
  intro args hs N h
  unfold groupedC at h
  split at h
  case h_2 => exact h.elim
  rename_i l b g
  split at h
  case h_2 => exact h.elim
  rename_i b' c0 lg bg c2 c3 c4 c5 T hl
  obtain ⟨⟨rfl, rfl, hne⟩, h⟩ := h
  split at h
  case h_2 => exact h.elim
  rename_i bg' σ' p s hg
  obtain ⟨rfl, rfl, hp, ho, hN⟩ := h
  obtain rfl := eq_of_heq hp
  simp only [cast_eq] at ho hN
  have hne' : l ≠ lg := fun e => by subst e; simp at hne
  have hg' : nth hs lg = some (pkA bg' grpE s) := hg
  refine Spec.at (hp := [⟨.blk b', .cells [c0, .ptr lg bg' 0, c2, c3, c4, c5] 96⟩, pkA bg' grpE s]) (args' := [.ptr 0 b' 0, .str g]) (Post' := fun h' r => h' = [⟨.blk b', .cells [c0, .ptr lg bg' 0, c2, c3, c4, c5] 96⟩, pkA bg' grpE s] ∧ r = .bool (mget s.gs (.s g)).isSome) [l, lg] (by simpa [distinct] using hne') (by simp [pickE, hl, hg']) ?_ rfl ?_
  · refine Spec.up ?_
    intro W F w hr
    have h1 := Rep.cellsEq (l := 0) (cs' := [c0, .ptr 1 bg' 0, c2, c3, c4, c5]) rfl (by rfl) hr
    refine Calls.mono (kg_spec ho W F w h1) ?_
    rintro e w' ⟨h', r, ⟨rfl, rfl⟩, rfl, hr'⟩
    exact ⟨_, _, ⟨_, _, fun W F w hr => Rep.cellsEq (l := 0) (cs' := [c0, .ptr lg bg' 0, c2, c3, c4, c5]) rfl (by rfl) hr, rfl, rfl, rfl⟩, rfl, hr'⟩
  · rintro h' r ⟨rfl, rfl⟩
    refine ⟨Nat.le_refl _, _, rfl, ?_⟩
    simpa [putBack, appE_eq, setN_selfA hl, setN_selfA hg'] using hN
/-! ### A signal to a group -/
theorem kgAll_ok {pt : PT} (h : pOk pt) (sig : Int) : ∀ (ms : List Int) (n : Int), pOk (ms.foldl (kgF sig) (pt, n)).1 := by
  intro ms
  induction ms generalizing pt with
  | nil => intro n; exact h
  | cons p ms ih => intro n; exact ih (h.kill p sig) _
theorem kgAll_n (pt : PT) (sig : Int) : ∀ (ms : List Int) (n : Int), n ≤ (ms.foldl (kgF sig) (pt, n)).2 ∧ (ms.foldl (kgF sig) (pt, n)).2 ≤ n + ms.length := by
  intro ms
  induction ms generalizing pt with
  | nil => intro n; simp
  | cons p ms ih =>
    intro n
    have e : (p :: ms).foldl (kgF sig) (pt, n) = ms.foldl (kgF sig) (kgF sig (pt, n) p) := rfl
    have e2 : kgF sig (pt, n) p = ((pKill pt p sig).1, match (pKill pt p sig).2 == 0 with | true => n + 1 | false => n) := rfl
    rw [e, e2]
    cases (pKill pt p sig).2 == 0 with
    | true => have := ih (pKill pt p sig).1 (n + 1); simp only [List.length_cons]; omega
    | false => have := ih (pKill pt p sig).1 n; simp only [List.length_cons]; omega
def kkR (b bp bg : Nat) (c2 c3 c4 c5 : SV) (pt : PT) (s : Grp) (g : ByteArray) (sig : Int) (b3 b5 b7 D l : Nat) (rc : Loop) (i : Nat) : List Ent := [⟨.blk b, .cells [.ptr 1 bp 0, .ptr 2 bg 0, c2, c3, c4, c5] 96⟩, pkA bp ptE ((((memQ s g).take (i)).foldl (kgF sig) (pt, 0)).1), pkA bg grpE s, ⟨.blk b3, .cells [.ptr 0 b 0] 24⟩, ⟨.blk b5, .cells [.int .i64 sig] 3⟩, ⟨.blk b7, .cells [.int .i64 ((((memQ s g).take (i)).foldl (kgF sig) (pt, 0)).2)] 3⟩, dent D true, lp l rc .ready none]
section
variable {b bp bg : Nat} {c2 c3 c4 c5 : SV} {pt : PT} {s : Grp} {g : ByteArray} {sig : Int} {b3 b5 b7 D l : Nat} {rc : Loop} {T : List SV}
theorem kk_V (ho : pOk pt) (hlen : (memQ s g).length ≤ 1000000) (hrt : rc.tmps = (denL T).toArray) (hrp : rc.params = rfP (codeAt (bodyOf Tryz.f12) [1, 1, 0, 1, 0])) (hra : rc.assign = rfA (codeAt (bodyOf Tryz.f12) [1, 1, 0, 1, 0])) (hrb : rc.body = rfB (codeAt (bodyOf Tryz.f12) [1, 1, 0, 1, 0]))
    (hl : ∀ v, lenN (setMany T [16] [v]) = 25 ∧ liveOk (setMany T [16] [v]) [(3, .ptr 3 b3 0), (5, .ptr 4 b5 0), (7, .ptr 5 b7 0), (16, v)]) :
    OneI (.func (.yield l) #[] #[]) (memQ s g) (kkR b bp bg c2 c3 c4 c5 pt s g sig b3 b5 b7 D l rc) (fun _ => False) := by
  intro i x hxi
  obtain ⟨hi, he⟩ := List.getElem?_eq_some_iff.1 hxi
  have hst := kgAll_ok ho sig ((memQ s g).take i) 0
  have hn := kgAll_n pt sig ((memQ s g).take i) 0
  have hti : ((memQ s g).take i).length ≤ 1000000 := by simp; omega
  have hnx : ((memQ s g).take (i + 1)).foldl (kgF sig) (pt, 0) = kgF sig (((memQ s g).take i).foldl (kgF sig) (pt, 0)) x := by rw [List.take_succ_eq_append_getElem hi, List.foldl_append, he]; rfl
  refine VSpec.conv (hs' := kkR b bp bg c2 c3 c4 c5 pt s g sig b3 b5 b7 D l rc i) (args' := [.int .i64 x]) (Post' := fun h r => h = kkR b bp bg c2 c3 c4 c5 pt s g sig b3 b5 b7 D l rc (i + 1) ∧ r = .bool true) (fun W F w hr => by have := Rep.unpk hr; simpa using this) rfl (.inr ⟨l, rfl, ?_⟩) ?_
  · unfold kkR
    rw [hnx]
    generalize ((memQ s g).take i).foldl (kgF sig) (pt, 0) = st at hst hn ⊢
    refine YSpec.up (YSpec.of_GR (p := 7) (T0 := T) (ps := [16]) rfl hrt hrp hra hrb rfl rfl fun W F => ?_)
    refine GR_live 25 [(3, .ptr 3 b3 0), (5, .ptr 4 b5 0), (7, .ptr 5 b7 0), (16, .int .i64 x)] [⟨.blk b, .cells [.ptr 1 bp 0, .ptr 2 bg 0, c2, c3, c4, c5] 96⟩, pkA bp ptE (st.1), pkA bg grpE s, ⟨.blk b3, .cells [.ptr 0 b 0] 24⟩, ⟨.blk b5, .cells [.int .i64 sig] 3⟩, ⟨.blk b7, .cells [.int .i64 (st.2)] 3⟩, dent D true, lp l rc .ready none] (hl _).1 (hl _).2 (fun _ h => h) fun u => ?_
    refine runR_sound (kc := true) (ss := []) (Cs := []) (Y := noY) (K := fun _ _ => False) (fun _ _ h => h.elim) trivial (noY_ok _) hmK Ends.assign 60 _ _ ?_
    rw [kk_asg (c0 := .bool true) (g := g)]
    refine ⟨rfl, ?_⟩
    refine GR_live 25 [(3, .ptr 3 b3 0), (5, .ptr 4 b5 0), (7, .ptr 5 b7 0), (8, .int .i64 x)] [⟨.blk b, .cells [.ptr 1 bp 0, .ptr 2 bg 0, c2, c3, c4, c5] 96⟩, pkA bp ptE (st.1), pkA bg grpE s, ⟨.blk b3, .cells [.ptr 0 b 0] 24⟩, ⟨.blk b5, .cells [.int .i64 sig] 3⟩, ⟨.blk b7, .cells [.int .i64 (st.2)] 3⟩, dent D true, lp l rc .busy none] rfl ⟨rfl, rfl, rfl, rfl, trivial⟩ (fun w hr => hr) fun u => ?_
    refine runR_sound (kc := true) (ss := []) (Cs := [(25, inl Tryz.prog [(73, adtC ptE killM)] true Tryz.f25 200)]) (Y := noY) (K := fun _ _ => False) (fun _ _ h => h.elim) ⟨inl_ok (Cs := [(73, adtC ptE killM)]) ⟨pKill_ok, trivial⟩ hmK Tryz.func25 (by kernel_rfl), trivial⟩ (noY_ok _) hmK (Ends.round (p := 7) (rc := rc) (j := none)) 600 _ _ ?_
    rw [kk_body (c0 := .bool true) (g := g)]
    refine ⟨rfl, rfl, rfl, rfl, rfl, rfl, rfl, HEq.rfl, hst, ?_⟩
    unfold kgF
    cases hc : (pKill st.1 x sig).2 == 0 with
    | true =>
      have w1 : IntKind.wrap .i64 (st.2 + 1) = st.2 + 1 := IntWalk.i64_in _ (by omega)
      dsimp only
      rw [w1]
      exact ⟨rfl, ⟨rfl, rfl, rfl, Nat.le_refl _⟩, rfl, _, .bool true, fun W F w hr => hr, rfl, rfl, rfl⟩
    | false => exact ⟨rfl, _, .bool true, fun W F w hr => hr, rfl, rfl, rfl⟩
  · rintro h' r ⟨rfl, rfl⟩
    exact ⟨[pk 0 (kkR b bp bg c2 c3 c4 c5 pt s g sig b3 b5 b7 D l rc (i + 1))], .bool true, fun W F w hr => Rep.pk (t := []) 0 (by simpa using hr), rfl, .inl ⟨rfl, rfl⟩⟩
end
theorem kk_spec {b bp bg : Nat} {c2 c3 c4 c5 : SV} {pt : PT} {s : Grp} {g : ByteArray} {sig : Int} (hp : pOk pt) (ho : gsOk s) : Spec Tryz.prog 12 [⟨.blk b, .cells [.ptr 1 bp 0, .ptr 2 bg 0, c2, c3, c4, c5] 96⟩, pkA bp ptE pt, pkA bg grpE s] [.ptr 0 b 0, .str g, .int .i64 sig] fun h' r => h' = [⟨.blk b, .cells [.ptr 1 bp 0, .ptr 2 bg 0, c2, c3, c4, c5] 96⟩, pkA bp ptE (kgAll pt sig (memQ s g)).1, pkA bg grpE s] ∧ r = .int .i64 (kgAll pt sig (memQ s g)).2 := by
  have hlen : (memQ s g).length ≤ 1000000 := by
    unfold memQ
    cases hx : mget s.gs (.s g) with
    | none => exact Nat.zero_le _
    | some x =>
      have := (ho.2.2.2 g x hx).2
      dsimp only
      rw [(sortQ_perm _).length_eq, List.length_map]; exact this
  refine Spec.up ?_
  refine Spec.of_GR 25 Tryz.func12 (c := bodyOf Tryz.f12) (by kernel_rfl) (by kernel_rfl) (Nat.le_of_ble_eq_true rfl) fun W F => ?_
  refine runR_sound (kc := true) (ss := []) (Cs := [(18, membersQC), (58, inl Tryz.prog [] true Tryz.f58 200)]) (fun _ _ h => h) ⟨gMbQ_ok, inl_ok trivial hmK Tryz.func58 (by kernel_rfl), trivial⟩ (noY_ok _) hmK Ends.fn 300 _ _ ?_
  rw [kk_start (c0 := .bool true)]
  refine ⟨rfl, fun b3 => ⟨rfl, fun b5 b7 => ⟨⟨rfl, rfl, rfl, Nat.le_refl _⟩, rfl, rfl, rfl, rfl, rfl, HEq.rfl, ho.mem g, fun ao cap => ⟨rfl, rfl, fun bx => ?_⟩⟩⟩⟩
  refine GR_rangeAt [] (bodyOf Tryz.f12) [1, 1, 0, 1, 0] (f := 87) (first := []) (captured := [.ptr 7 bx 0]) (by kernel_rfl) (by kernel_rfl) (by kernel_rfl) fun D l rc hrt hrp hra hrb =>
    ⟨fun h _ => h = kkR b bp bg c2 c3 c4 c5 pt s g sig b3 b5 b7 D l rc (memQ s g).length ++ [⟨.blk bx, .cells [.vec 1 ao (memQ s g).length cap] 47⟩, ⟨.sl ao cap, .vecL 3 1 encI1 (memQ s g) 0⟩], ?_, ?_⟩
  · intro W F w hr
    have hV := kk_V (T := _) (l := l) (s := s) (b := b) (bp := bp) (bg := bg) (c2 := c2) (c3 := c3) (c4 := c4) (c5 := c5) (g := g) (sig := sig) (b3 := b3) (b5 := b5) (b7 := b7) (D := D) hp hlen hrt hrp hra hrb fun v => ⟨rfl, rfl, rfl, rfl, rfl, trivial⟩
    have h1 : Rep W F [⟨.blk bx, .cells [.vec 1 ao (memQ s g).length cap] 47⟩, ⟨.sl ao cap, .vecL 3 1 encI1 (memQ s g) 0⟩, pk 0 (kkR b bp bg c2 c3 c4 c5 pt s g sig b3 b5 b7 D l rc 0)] w := by
      have q1 := Rep.pick (π := [7, 6, 0, 1, 2, 3, 4, 5, 8, 9]) (by decide) rfl hr
      have q2 := Rep.cellsEq (l := 0) (cs' := [.vec 1 ao (memQ s g).length cap]) rfl (by rfl) q1
      exact Rep.pkAt 0 (p := [_, _]) (h := [_, _, _, _, _, _, _, _]) (t := []) q2
    refine Calls.mono (valI_iter (ao := ao) (cap := cap) (bx := bx) hlen hV W F w h1) ?_
    rintro e w' ⟨h', r, ⟨rfl, hc⟩, rfl, hr'⟩
    rcases hc with rfl | ⟨R', hs, rfl⟩
    · have h7 := Rep.unpkAt (p := [_, _]) (t := []) hr'
      exact ⟨_, .tuple [], rfl, rfl, Rep.pick (π := [2, 3, 4, 5, 6, 7, 8, 9, 0, 1]) (by decide) rfl h7⟩
    · exact hs.elim
  · rintro h' v rfl
    unfold kkR
    rw [List.take_length]
    refine ⟨7, .ready, none, by decide, rfl, ?_⟩
    dsimp only
    refine GR_live 25 [(3, .ptr 3 b3 0), (5, .ptr 4 b5 0), (7, .ptr 5 b7 0)] [⟨.blk b, .cells [.ptr 1 bp 0, .ptr 2 bg 0, c2, c3, c4, c5] 96⟩, pkA bp ptE (((memQ s g).foldl (kgF sig) (pt, 0)).1), pkA bg grpE s, ⟨.blk b3, .cells [.ptr 0 b 0] 24⟩, ⟨.blk b5, .cells [.int .i64 sig] 3⟩, ⟨.blk b7, .cells [.int .i64 (((memQ s g).foldl (kgF sig) (pt, 0)).2)] 3⟩, dent D true, lp l rc .exhausted none] rfl ⟨rfl, rfl, rfl, trivial⟩ (fun w hr => Rep.dropR (h := [_, _, _, _, _, _, _, _]) (t := [_, _]) hr) fun u => ?_
    refine runR_sound (Cs := []) (Y := noY) (kc := true) (ss := []) (K := fun _ _ => False) (fun _ _ h => h.elim) trivial (noY_ok _) hmK (Ends.fnM D 6) 900 _ _ ?_
    rw [kk_end (c0 := .bool true) (g := g)]
    exact ⟨rfl, rfl, _, _, fun W F w hr => Rep.pick (π := [0, 1, 2]) (by decide) rfl hr, rfl, rfl, rfl⟩
theorem killG_ok : CtrOk Tryz.prog 12 killGC := by
  intro args hs N h
  unfold killGC at h
  split at h
  case h_2 => exact h.elim
  rename_i l b g sig
  split at h
  case h_2 => exact h.elim
  rename_i b' lp bp lg bg c2 c3 c4 c5 T hl
  obtain ⟨⟨rfl, rfl, hd⟩, h⟩ := h
  split at h
  case h_2 => exact h.elim
  rename_i bp' σp pp pt hp
  split at h
  case h_2 => exact h.elim
  rename_i bg' σg pg s hg
  obtain ⟨⟨rfl, rfl⟩, rfl, rfl, hpp, hpg, ⟨ho, hgs⟩, hN⟩ := h
  obtain rfl := eq_of_heq hpp
  obtain rfl := eq_of_heq hpg
  simp only [cast_eq] at ho hgs hN
  have hp' : nth hs lp = some (pkA bp' ptE pt) := hp
  have hg' : nth hs lg = some (pkA bg' grpE s) := hg
  refine Spec.at (hp := [⟨.blk b', .cells [.ptr lp bp' 0, .ptr lg bg' 0, c2, c3, c4, c5] 96⟩, pkA bp' ptE pt, pkA bg' grpE s]) (args' := [.ptr 0 b' 0, .str g, .int .i64 sig]) (Post' := fun h' r => h' = [⟨.blk b', .cells [.ptr lp bp' 0, .ptr lg bg' 0, c2, c3, c4, c5] 96⟩, pkA bp' ptE (kgAll pt sig (memQ s g)).1, pkA bg' grpE s] ∧ r = .int .i64 (kgAll pt sig (memQ s g)).2) [l, lp, lg] hd (by simp [pickE, hl, hp', hg']) ?_ rfl ?_
  · refine Spec.up ?_
    intro W F w hr
    have h1 := Rep.cellsEq (l := 0) (cs' := [.ptr 1 bp' 0, .ptr 2 bg' 0, c2, c3, c4, c5]) rfl (by rfl) hr
    refine Calls.mono (kk_spec ho hgs W F w h1) ?_
    rintro e w' ⟨h', r, ⟨rfl, rfl⟩, rfl, hr'⟩
    exact ⟨_, _, ⟨_, _, fun W F w hr => Rep.cellsEq (l := 0) (cs' := [.ptr lp bp' 0, .ptr lg bg' 0, c2, c3, c4, c5]) rfl (by rfl) hr, rfl, rfl, rfl⟩, rfl, hr'⟩
  · rintro h' r ⟨rfl, rfl⟩
    refine ⟨Nat.le_refl _, _, rfl, ?_⟩
    simp only [distinct, Bool.and_eq_true, Bool.not_eq_true', List.contains_eq_any_beq, List.any_cons, List.any_nil, Bool.or_false, Bool.or_eq_false_iff, beq_eq_false_iff_ne, ne_eq, Bool.and_true, List.elem_cons, List.elem_nil] at hd
    have s1 : ∀ (j : Nat) (v w : Ent), j ≠ lp → nth hs j = some v → nth (setN hs lp w) j = some v := fun j v w hj hv => by
      rw [nth_eq, setN_eq, List.getElem?_set, if_neg (fun e => hj e.symm), ← nth_eq]; exact hv
    simp only [putBack, appE_eq, List.append_nil]
    rw [setN_selfA hl, setN_selfA (s1 lg _ _ (by grind) hg')]
    exact hN
theorem newPo_ok : CtrOk Tryz.prog 50 newAnyC := by
  intro args hs N h
  unfold newAnyC at h
  split at h
  · refine Spec.at (hp := []) (args' := []) (Post' := fun h' r => h' = [] ∧ ∃ v, r = .raw (.pointer v)) [] rfl rfl ?_ rfl ?_
    · refine Spec.up ?_
      refine Spec.of_G 4 Tryz.func50 (c := bodyOf Tryz.f50) (by kernel_rfl) (by kernel_rfl) (Nat.le_of_ble_eq_true rfl) fun W F => ?_
      refine G_run (kc := false) (ss := []) (Cs := []) trivial hmK 600 ?_
      rw [pn_run]
      exact fun b => ⟨⟨rfl, rfl⟩, rfl, fun b1 => ⟨[], .raw (.pointer (some ⟨b1, 0, none⟩)), fun W F w hr => Rep.dropR (h := []) hr, rfl, rfl, _, rfl⟩⟩
    · rintro h' r ⟨rfl, v, rfl⟩
      refine ⟨Nat.le_refl _, _, rfl, ?_⟩
      simpa [putBack, appE_eq] using h v
  · exact h.elim
theorem newTr_ok : CtrOk Tryz.prog 51 newAnyC := by
  intro args hs N h
  unfold newAnyC at h
  split at h
  · refine Spec.at (hp := []) (args' := []) (Post' := fun h' r => h' = [] ∧ ∃ v, r = .raw (.pointer v)) [] rfl rfl ?_ rfl ?_
    · refine Spec.up ?_
      refine Spec.of_G 7 Tryz.func51 (c := bodyOf Tryz.f51) (by kernel_rfl) (by kernel_rfl) (Nat.le_of_ble_eq_true rfl) fun W F => ?_
      refine G_run (kc := false) (ss := []) (Cs := []) trivial hmK 600 ?_
      rw [tn_run]
      exact fun b => ⟨⟨rfl, rfl, rfl⟩, fun b1 b2 => ⟨⟨rfl, rfl⟩, rfl, fun b3 => ⟨[], .raw (.pointer (some ⟨b3, 0, none⟩)), fun W F w hr => Rep.dropR (h := []) hr, rfl, rfl, _, rfl⟩⟩⟩
    · rintro h' r ⟨rfl, v, rfl⟩
      refine ⟨Nat.le_refl _, _, rfl, ?_⟩
      simpa [putBack, appE_eq] using h v
  · exact h.elim
theorem add_ok : CtrOk Tryz.prog 77 addC := by
  intro args hs N h
  unfold addC at h
  split at h
  · rename_i a c
    refine Spec.lift (Φ := fun r => r = .int .i64 (addS a c)) ?_ (fun r hr => by rw [hr]; exact h)
    refine Spec.of_G 39 Tryz.func77 (c := bodyOf Tryz.f77) (by kernel_rfl) (by kernel_rfl) (Nat.le_of_ble_eq_true rfl) fun W F => ?_
    refine G_run (kc := false) (ss := []) (Cs := []) trivial hmK 600 ?_
    rw [add_run]
    unfold addS foreverI
    cases h1 : a == 9223372036854775807 with
    | true => exact rfl
    | false =>
      cases h2 : c == 9223372036854775807 with
      | true => exact rfl
      | false =>
        dsimp only [Bool.or_self]
        cases h3 : decide (a > 0) <;> cases h4 : decide (c > 0) <;> cases h5 : decide (IntKind.wrap .i64 (a + c) < 0) <;> cases h6 : decide (a < 0) <;> cases h7 : decide (c < 0) <;> cases h8 : decide (IntKind.wrap .i64 (a + c) ≥ 0) <;> exact rfl
  · exact h.elim
theorem tick_ok : CtrOk Tryz.prog 33 tickC := by
  intro args hs N h
  unfold tickC at h
  split at h
  case h_2 => exact h.elim
  rename_i l b n
  split at h
  case h_2 => exact h.elim
  rename_i b' c0 c1 c2 c3 m w T hl
  obtain ⟨⟨rfl, rfl⟩, h⟩ := h
  refine Spec.at (hp := [⟨.blk b', .cells [c0, c1, c2, c3, .int .i64 m, .int .i64 w] 96⟩]) (args' := [.ptr 0 b' 0, .int .i64 n]) (Post' := fun h' r => match decide (n < 0) with
    | true => h' = [⟨.blk b', .cells [c0, c1, c2, c3, .int .i64 m, .int .i64 w] 96⟩] ∧ r = .int .i64 10
    | false => h' = [⟨.blk b', .cells [c0, c1, c2, c3, .int .i64 (addS m n), .int .i64 (addS w n)] 96⟩] ∧ r = .int .i64 0) [l] (by simp [distinct]) (by simp [pickE, hl]) ?_ rfl ?_
  · refine Spec.of_G 25 Tryz.func33 (c := bodyOf Tryz.f33) (by kernel_rfl) (by kernel_rfl) (Nat.le_of_ble_eq_true rfl) fun W F => ?_
    refine G_run (kc := true) (ss := [200001]) (Cs := [(77, addC)]) ⟨add_ok, trivial⟩ hmK 600 ?_
    rw [tick_run]
    cases hn : decide (n < 0) with
    | true =>
      dsimp only
      exact ⟨rfl, rfl⟩
    | false =>
      dsimp only
      repeat' first
        | exact rfl
        | exact trivial
        | exact Nat.le_refl _
        | apply And.intro
        | (show _ ≤ _; omega)
        | (show _ < _; omega)
        | fail
  · intro h' r hp
    cases hn : decide (n < 0) with
    | true =>
      rw [hn] at hp h
      obtain ⟨rfl, rfl⟩ := hp
      refine ⟨Nat.le_refl _, _, rfl, ?_⟩
      simpa [putBack, appE_eq, setN_selfA hl] using h
    | false =>
      rw [hn] at hp h
      obtain ⟨rfl, rfl⟩ := hp
      refine ⟨Nat.le_refl _, _, rfl, ?_⟩
      simpa [putBack, appE_eq] using h
theorem knJ_ok : AllOk Tryz.prog knJ := ⟨gPut_ok, trivial⟩
theorem knS_ok : AllOk Tryz.prog knS := ⟨grouped_ok, pSpawn_ok, inl_ok knJ_ok hmK Tryz.func54 (by kernel_rfl), trivial⟩
theorem knF_ok : AllOk Tryz.prog knF := ⟨gOf_ok, pFork_ok, inl_ok knJ_ok hmK Tryz.func54 (by kernel_rfl), trivial⟩
theorem knE_ok : AllOk Tryz.prog knE := ⟨pExit_ok, gGone_ok, trivial⟩
theorem knD_ok : AllOk Tryz.prog knD := ⟨pSig_ok, inl_ok knE_ok hmK Tryz.func11 (by kernel_rfl), trivial⟩
theorem knN_ok : AllOk Tryz.prog knN := ⟨pNew_ok, gNew_ok, newPo_ok, newTr_ok, trivial⟩
theorem knT_ok : AllOk Tryz.prog knT := ⟨inl_ok knN_ok hmK Tryz.func6 (by kernel_rfl), inl_ok trivial hmK Tryz.func7 (by kernel_rfl), inl_ok trivial hmK Tryz.func15 (by kernel_rfl), inl_ok trivial hmK Tryz.func38 (by kernel_rfl), inl_ok trivial hmK Tryz.func39 (by kernel_rfl), tick_ok, inl_ok knS_ok hmK Tryz.func9 (by kernel_rfl), inl_ok knF_ok hmK Tryz.func10 (by kernel_rfl), inl_ok knD_ok hmK Tryz.func13 (by kernel_rfl), killG_ok, gMake_ok, gMbQ_ok, gEmptied_ok, pSig_ok, trivial⟩
end Go.Proofs.YtkcmgcoppecfpaaGreat

/- The kernel's laws: what they call. -/
namespace Go.Proofs.YtkcmgcoppecfpaaGreat
open Go Go.RowKit

def trueKC : Ctr := fun args hs N => match args with
  | [] => N hs (.bool true)
  | _ => False
end Go.Proofs.YtkcmgcoppecfpaaGreat

namespace Go.Proofs.YtkcmgcoppecfpaaGreat
open Go Go.RowKit
set_option allowUnsafeReducibility true

theorem known12 (K : List Frm → Sy → Prop) (N : List Ent → SV → Prop) : (run Tryz.prog knT false [] K (retP Tryz.prog Tryz.f5.results.toList N) 4000 [.code (bodyOf Tryz.f5)] ⟨padTo 83 [], []⟩) = ( true = true ∧ true = true ∧ ∀ (b bm bp : Nat), true = true ∧ ∀ (b_1 bg bo : Nat), true = true ∧ ∀ (v : Option Addr), true = true ∧ ∀ (v_1 : Option Addr), (true = true ∧ true = true) ∧ true = true ∧ ∀ (b_2 : Nat), true = true ∧ b_2 = b_2 ∧ true = true ∧ b_1 = b_1 ∧ ∃ (h : Grp = Grp), AdtIs (fun (s : Grp) (b : Nat) ↦ packs (grpE s b)) grpE ∧ ∀ (nb : Nat), true = true ∧ true = true ∧ (b_2 = b_2 ∧ 96 = 96 ∧ false = false) ∧ b_1 = b_1 ∧ ∃ (h : Grp = Grp), AdtIs (fun (s : Grp) (b : Nat) ↦ packs (grpE s b)) grpE ∧ gsOk (cast h (Grp.mk bg bo (@none Addr) 0 [(Key.s (ByteArray.mk #[(97 : UInt8)]), nb, [])] [] [])) ∧ b_2 = b_2 ∧ true = true ∧ b = b ∧ ∃ (h : PT = PT), AdtIs (fun (s : PT) (b : Nat) ↦ packs (ptE s b)) ptE ∧ pOk (PT.mk bm [(bp, PR.mk (1 : Int) (0 : Int) (ByteArray.mk #[]) false (0 : Int) (ByteArray.mk #[]) false false)] (10 : Int) (1 : Int)) ∧ ∀ (nb_1 : Nat), true = true ∧ b_2 = b_2 ∧ true = true ∧ b_1 = b_1 ∧ ∃ (h : Grp = Grp), AdtIs (fun (s : Grp) (b : Nat) ↦ packs (grpE s b)) grpE ∧ (gOk (Grp.mk bg bo (@none Addr) 0 [(Key.s (ByteArray.mk #[(97 : UInt8)]), nb, [])] [] []) (2 : Int) ∧ keysOk (Grp.mk bg bo (@none Addr) 0 [(Key.s (ByteArray.mk #[(97 : UInt8)]), nb, [])] [] []).gs) ∧ ∀ (ao : Option Addr) (cap : Nat), true = true ∧ b_2 = b_2 ∧ true = true ∧ b_1 = b_1 ∧ ∃ (h : Grp = Grp), AdtIs (fun (s : Grp) (b : Nat) ↦ packs (grpE s b)) grpE ∧ b_2 = b_2 ∧ true = true ∧ b = b ∧ ∃ (h : PT = PT), AdtIs (fun (s : PT) (b : Nat) ↦ packs (ptE s b)) ptE ∧ pOk (PT.mk bm ([(bp, PR.mk (1 : Int) (0 : Int) (ByteArray.mk #[]) false (0 : Int) (ByteArray.mk #[]) false false)] ++ [(nb_1, PR.mk ((1 : Int) + (1 : Int)) (1 : Int) (ByteArray.mk #[(97 : UInt8)]) false (0 : Int) (ByteArray.mk #[(120 : UInt8)]) false false)]) (10 : Int) ((1 : Int) + (1 : Int))) ∧ ∀ (nb_2 : Nat), true = true ∧ b_2 = b_2 ∧ true = true ∧ b_1 = b_1 ∧ ∃ (h : Grp = Grp), AdtIs (fun (s : Grp) (b : Nat) ↦ packs (grpE s b)) grpE ∧ (gOk (Grp.mk bg bo (@none Addr) 0 [(Key.s (ByteArray.mk #[(97 : UInt8)]), nb, [(Key.i IntKind.i64 (2 : Int), PUnit.unit)])] [(Key.i IntKind.i64 (2 : Int), ByteArray.mk #[(97 : UInt8)])] []) (3 : Int) ∧ keysOk (Grp.mk bg bo (@none Addr) 0 [(Key.s (ByteArray.mk #[(97 : UInt8)]), nb, [(Key.i IntKind.i64 (2 : Int), PUnit.unit)])] [(Key.i IntKind.i64 (2 : Int), ByteArray.mk #[(97 : UInt8)])] []).gs) ∧ ∀ (ao : Option Addr) (cap : Nat), true = true ∧ (b_2 = b_2 ∧ 96 = 96 ∧ true = true) ∧ (b = b ∧ b_1 = b_1) ∧ ∃ (h1 : PT = PT), ∃ (h2 : Grp = Grp), AdtIs (fun (s : PT) (b : Nat) ↦ packs (ptE s b)) ptE ∧ AdtIs (fun (s : Grp) (b : Nat) ↦ packs (grpE s b)) grpE ∧ (pOk (cast h1 (PT.mk bm ([(bp, PR.mk (1 : Int) (0 : Int) (ByteArray.mk #[]) false (0 : Int) (ByteArray.mk #[]) false false)] ++ [(nb_1, PR.mk ((1 : Int) + (1 : Int)) (1 : Int) (ByteArray.mk #[(97 : UInt8)]) false (0 : Int) (ByteArray.mk #[(120 : UInt8)]) false false)] ++ [(nb_2, PR.mk ((1 : Int) + (1 : Int) + (1 : Int)) (2 : Int) (ByteArray.mk #[(97 : UInt8)]) false (0 : Int) (ByteArray.mk #[(120 : UInt8)]) false false)]) (10 : Int) ((1 : Int) + (1 : Int) + (1 : Int)))) ∧ gsOk (cast h2 (Grp.mk bg bo (@none Addr) 0 [(Key.s (Option.getD (some (ByteArray.mk #[(97 : UInt8)])) (ByteArray.mk #[])), nb, [(Key.i IntKind.i64 (2 : Int), PUnit.unit), (Key.i IntKind.i64 (3 : Int), PUnit.unit)])] [(Key.i IntKind.i64 (2 : Int), ByteArray.mk #[(97 : UInt8)]), (Key.i IntKind.i64 (3 : Int), Option.getD (some (ByteArray.mk #[(97 : UInt8)])) (ByteArray.mk #[]))] []))) ∧ true = true ∧ b_2 = b_2 ∧ true = true ∧ b = b ∧ ∃ (h : PT = PT), AdtIs (fun (s : PT) (b : Nat) ↦ packs (ptE s b)) ptE ∧ pOk (PT.mk bm [(bp, PR.mk (1 : Int) (0 : Int) (ByteArray.mk #[]) false (0 : Int) (ByteArray.mk #[]) false false), (nb_1, PR.mk ((1 : Int) + (1 : Int)) (1 : Int) (ByteArray.mk #[(97 : UInt8)]) false (0 : Int) (ByteArray.mk #[(120 : UInt8)]) false true), (nb_2, PR.mk ((1 : Int) + (1 : Int) + (1 : Int)) (2 : Int) (ByteArray.mk #[(97 : UInt8)]) false (0 : Int) (ByteArray.mk #[(120 : UInt8)]) false true)] (10 : Int) ((1 : Int) + (1 : Int) + (1 : Int))) ∧ true = true ∧ b_2 = b_2 ∧ true = true ∧ b = b ∧ ∃ (h : PT = PT), AdtIs (fun (s : PT) (b : Nat) ↦ packs (ptE s b)) ptE ∧ pOk (PT.mk bm [(bp, PR.mk (1 : Int) (0 : Int) (ByteArray.mk #[]) false (0 : Int) (ByteArray.mk #[]) false false), (nb_1, PR.mk ((1 : Int) + (1 : Int)) (1 : Int) (ByteArray.mk #[(97 : UInt8)]) false (0 : Int) (ByteArray.mk #[(120 : UInt8)]) false true), (nb_2, PR.mk ((1 : Int) + (1 : Int) + (1 : Int)) (2 : Int) (ByteArray.mk #[(97 : UInt8)]) false (0 : Int) (ByteArray.mk #[(120 : UInt8)]) false true)] (10 : Int) ((1 : Int) + (1 : Int) + (1 : Int))) ∧ b_2 = b_2 ∧ true = true ∧ b_1 = b_1 ∧ ∃ (h : Grp = Grp), AdtIs (fun (s : Grp) (b : Nat) ↦ packs (grpE s b)) grpE ∧ gOk (Grp.mk bg bo (@none Addr) 0 [(Key.s (Option.getD (some (ByteArray.mk #[(97 : UInt8)])) (ByteArray.mk #[])), nb, [(Key.i IntKind.i64 (2 : Int), PUnit.unit), (Key.i IntKind.i64 (3 : Int), PUnit.unit)])] [(Key.i IntKind.i64 (2 : Int), ByteArray.mk #[(97 : UInt8)]), (Key.i IntKind.i64 (3 : Int), Option.getD (some (ByteArray.mk #[(97 : UInt8)])) (ByteArray.mk #[]))] []) (2 : Int) ∧ ∀ (ao : Option Addr) (cap : Nat), true = true ∧ b_2 = b_2 ∧ true = true ∧ b = b ∧ ∃ (h : PT = PT), AdtIs (fun (s : PT) (b : Nat) ↦ packs (ptE s b)) ptE ∧ pOk (PT.mk bm [(bp, PR.mk (1 : Int) (0 : Int) (ByteArray.mk #[]) false (0 : Int) (ByteArray.mk #[]) false false), (nb_1, PR.mk (2 : Int) (1 : Int) (ByteArray.mk #[(97 : UInt8)]) true (-9 : Int) (ByteArray.mk #[(120 : UInt8)]) false true), (nb_2, PR.mk (3 : Int) (1 : Int) (PR.mk ((1 : Int) + (1 : Int) + (1 : Int)) (2 : Int) (ByteArray.mk #[(97 : UInt8)]) false (0 : Int) (ByteArray.mk #[(120 : UInt8)]) false true).group false (0 : Int) (PR.mk ((1 : Int) + (1 : Int) + (1 : Int)) (2 : Int) (ByteArray.mk #[(97 : UInt8)]) false (0 : Int) (ByteArray.mk #[(120 : UInt8)]) false true).cmd false true)] (10 : Int) ((1 : Int) + (1 : Int) + (1 : Int))) ∧ true = true ∧ b_2 = b_2 ∧ true = true ∧ b = b ∧ ∃ (h : PT = PT), AdtIs (fun (s : PT) (b : Nat) ↦ packs (ptE s b)) ptE ∧ pOk (PT.mk bm [(bp, PR.mk (1 : Int) (0 : Int) (ByteArray.mk #[]) false (0 : Int) (ByteArray.mk #[]) false false), (nb_1, PR.mk (2 : Int) (1 : Int) (ByteArray.mk #[(97 : UInt8)]) true (-9 : Int) (ByteArray.mk #[(120 : UInt8)]) false true), (nb_2, PR.mk (3 : Int) (1 : Int) (PR.mk ((1 : Int) + (1 : Int) + (1 : Int)) (2 : Int) (ByteArray.mk #[(97 : UInt8)]) false (0 : Int) (ByteArray.mk #[(120 : UInt8)]) false true).group false (0 : Int) (PR.mk ((1 : Int) + (1 : Int) + (1 : Int)) (2 : Int) (ByteArray.mk #[(97 : UInt8)]) false (0 : Int) (ByteArray.mk #[(120 : UInt8)]) false true).cmd false true)] (10 : Int) ((1 : Int) + (1 : Int) + (1 : Int))) ∧ b_2 = b_2 ∧ true = true ∧ b_1 = b_1 ∧ ∃ (h : Grp = Grp), AdtIs (fun (s : Grp) (b : Nat) ↦ packs (grpE s b)) grpE ∧ gOk (Grp.mk bg bo (@none Addr) (0 : Nat) [(Key.s (ByteArray.mk #[(97 : UInt8)]), nb, [(Key.i IntKind.i64 (3 : Int), PUnit.unit)])] [(Key.i IntKind.i64 (3 : Int), Option.getD (some (ByteArray.mk #[(97 : UInt8)])) (ByteArray.mk #[]))] []) (3 : Int) ∧ ∀ (ao : Option Addr) (cap : Nat), true = true ∧ b_2 = b_2 ∧ true = true ∧ b_1 = b_1 ∧ ∃ (h : Grp = Grp), AdtIs (fun (s : Grp) (b : Nat) ↦ packs (grpE s b)) grpE ∧ ∀ (ao : Option Addr) (cap : Nat), true = true ∧ (b_2 = b_2 ∧ (96 : Nat) = 96) ∧ true = true ∧ b_2 = b_2 ∧ true = true ∧ b_2 = b_2 ∧ true = true ∧ b_2 = b_2 ∧ true = true ∧ b = b ∧ ∃ (h : PT = PT), AdtIs (fun (s : PT) (b : Nat) ↦ packs (ptE s b)) ptE ∧ pOk (PT.mk bm [(bp, PR.mk (1 : Int) (0 : Int) (ByteArray.mk #[]) false (0 : Int) (ByteArray.mk #[]) false false), (nb_1, PR.mk (2 : Int) (1 : Int) (ByteArray.mk #[(97 : UInt8)]) true (-9 : Int) (ByteArray.mk #[(120 : UInt8)]) false true), (nb_2, PR.mk (3 : Int) (1 : Int) (ByteArray.mk #[(97 : UInt8)]) true (-9 : Int) (ByteArray.mk #[(120 : UInt8)]) false true)] (10 : Int) ((1 : Int) + (1 : Int) + (1 : Int))) ∧ true = true ∧ b_2 = b_2 ∧ true = true ∧ b = b ∧ ∃ (h : PT = PT), AdtIs (fun (s : PT) (b : Nat) ↦ packs (ptE s b)) ptE ∧ pOk (PT.mk bm [(bp, PR.mk (1 : Int) (0 : Int) (ByteArray.mk #[]) false (0 : Int) (ByteArray.mk #[]) false false), (nb_1, PR.mk (2 : Int) (1 : Int) (ByteArray.mk #[(97 : UInt8)]) true (-9 : Int) (ByteArray.mk #[(120 : UInt8)]) false true), (nb_2, PR.mk (3 : Int) (1 : Int) (ByteArray.mk #[(97 : UInt8)]) true (-9 : Int) (ByteArray.mk #[(120 : UInt8)]) false true)] (10 : Int) ((1 : Int) + (1 : Int) + (1 : Int))) ∧ N [pkA b ptE (PT.mk bm [(bp, PR.mk (1 : Int) (0 : Int) (ByteArray.mk #[]) false (0 : Int) (ByteArray.mk #[]) false false), (nb_1, PR.mk (2 : Int) (1 : Int) (ByteArray.mk #[(97 : UInt8)]) true (-9 : Int) (ByteArray.mk #[(120 : UInt8)]) false true), (nb_2, PR.mk (3 : Int) (1 : Int) (ByteArray.mk #[(97 : UInt8)]) true (-9 : Int) (ByteArray.mk #[(120 : UInt8)]) false true)] (10 : Int) ((1 : Int) + (1 : Int) + (1 : Int))), pkA b_1 grpE (Grp.mk bg bo ao cap [(Key.s (Option.getD (some (ByteArray.mk #[(97 : UInt8)])) (ByteArray.mk #[])), nb, [])] [] []), Ent.mk (Loc.blk b_2) (SObj.cells [SV.ptr (0 : Nat) b (0 : Nat), SV.ptr (1 : Nat) b_1 (0 : Nat), SV.raw (Value.pointer v), SV.raw (Value.pointer v_1), SV.int .i64 (addS (0 : Int) (3 : Int)), SV.int .i64 (addS (5 : Int) (3 : Int))] 96)] (SV.bool true)) := by kernel_rfl
end Go.Proofs.YtkcmgcoppecfpaaGreat

/- The kernel's laws: known. -/
namespace Go.Proofs.YtkcmgcoppecfpaaGreat
open Go Go.RowKit

def keysB {β : Type} : List (Key × β) → Bool
  | [] => true
  | a :: l => l.all (fun c => !keyEq a.1 c.1) && keysB l
theorem keysOk_lit {β : Type} : ∀ {es : List (Key × β)}, keysB es = true → keysOk es
  | [], _ => List.Pairwise.nil
  | a :: l, h => by
    simp only [keysB, Bool.and_eq_true, List.all_eq_true, Bool.not_eq_true'] at h
    exact List.pairwise_cons.2 ⟨h.1, keysOk_lit h.2⟩
def wfIB (ms : List (Key × Unit)) : Bool := keysB ms && Nat.ble ms.length 1000000 && ms.all fun e => (Lit.int .i64 (keyInt e.1)).wf
def gsB (s : Grp) : Bool := keysB s.gs && Nat.ble s.gs.length 1000000 && s.gs.all (fun e => (keyKind e.1).isNone && Nat.ble (keyStr e.1).length 1000) && s.gs.all fun e => wfIB e.2.2
theorem gsOk_lit {s : Grp} (h : gsB s = true) : gsOk s := by
  simp only [gsB, Bool.and_eq_true, List.all_eq_true, Nat.ble_eq, Option.isNone_iff_eq_none] at h
  obtain ⟨⟨⟨h1, h2⟩, h3⟩, h4⟩ := h
  refine ⟨⟨keysOk_lit h1, by omega, fun e he => ?_⟩, h2, fun e he => (h3 e he).1, fun n x hx => ?_⟩
  · have := (h3 e he).2
    unfold maxLen at *
    omega
  · obtain ⟨k', hm, _⟩ := mget_mem hx
    have := h4 _ hm
    simp only [wfIB, Bool.and_eq_true, List.all_eq_true, Nat.ble_eq] at this
    obtain ⟨⟨q1, q2⟩, q3⟩ := this
    exact ⟨⟨keysOk_lit q1, by omega, q3⟩, q2⟩
theorem gOk_litK {s : Grp} {pid : Int} (h : Nat.ble s.notes.length 100000000 = true) (h2 : (match mget s.of (.i .i64 pid) with | none => true | some n => (mget s.gs (.s n)).isSome) = true) : gOk s pid := by
  refine ⟨Nat.le_of_ble_eq_true h, fun n hn => ?_⟩
  rw [hn] at h2
  exact Option.isSome_iff_exists.1 h2
theorem memGOk_lit {s : Grp} {n : ByteArray} (h : gsB s = true) : memGOk s n := (gsOk_lit h).mem n
def ascBK : List Int → Bool
  | [] => true
  | a :: l => l.all (fun b => decide (a < b)) && ascBK l
theorem ascK_of : ∀ {l : List Int}, ascBK l = true → l.Pairwise (· < ·)
  | [], _ => .nil
  | a :: l, h => by
    simp only [ascBK, Bool.and_eq_true, List.all_eq_true, decide_eq_true_eq] at h
    exact .cons h.1 (ascK_of h.2)
theorem pOk_litK {s : PT} (h1 : ascBK (s.ps.map (·.2.pid)) = true) (h2 : (s.ps.map (·.2.pid)).all (fun p => decide (1 ≤ p) && decide (p ≤ s.last)) = true) (h3 : (decide (s.last ≤ 1000000) && Nat.ble s.ps.length 1000000 && decide (0 ≤ s.room) && decide (s.room ≤ 64)) = true) : pOk s := by
  simp only [Bool.and_eq_true, decide_eq_true_eq, Nat.ble_eq] at h3
  refine ⟨by simpa [List.pairwise_map] using ascK_of h1, fun x hx => ?_, h3.1.1.1, h3.1.1.2, h3.1.2, h3.2⟩
  have := List.all_eq_true.1 h2 x.2.pid (List.mem_map.2 ⟨x, hx, rfl⟩)
  simpa using this
theorem known12_ok : CtrOk Tryz.prog 5 trueKC := by
  intro args hs N h
  unfold trueKC at h
  split at h
  · refine Spec.lift (Φ := fun r => r = .bool true) ?_ (fun r hr => by rw [hr]; exact h)
    refine Spec.of_G 83 Tryz.func5 (c := bodyOf Tryz.f5) (by kernel_rfl) (by kernel_rfl) (Nat.le_of_ble_eq_true rfl) fun W F => ?_
    refine G_run (kc := false) (ss := []) knT_ok hmK 4000 ?_
    rw [known12]
    repeat' first
      | exact pOk_litK rfl rfl rfl
      | exact gsOk_lit rfl
      | exact memGOk_lit rfl
      | exact gOk_litK rfl rfl
      | exact keysOk_lit rfl
      | apply And.intro
      | exact rfl
      | exact HEq.rfl
      | (show _ ≤ _; decide)
      | (refine fun _ => ?_)
      | (refine ⟨rfl, ?_⟩)
  · exact h.elim
end Go.Proofs.YtkcmgcoppecfpaaGreat

/- proc.Table: going through it. -/
namespace Go.Proofs.YtkcmgcoppecfpaaGreat
open Go Go.RowKit
def all1Y (fv : Value) (s : PT) (b : Nat) (R : Nat → List Ent) (Stop : PT → List Ent → Prop) : YCtr := fun v args hs N => v = fv ∧ match hs with
  | e0 :: e1 :: e2 :: rest => ∃ i x, s.ps[i]? = some x ∧ args = [.agg (encP6 x.2)] ∧ e0 = pkA b ptE s ∧ e2 = pk 0 (R i) ∧
      N (pkA b ptE s :: e1 :: pk 0 (R (i + 1)) :: rest) (.bool true) ∧ ∀ s' R', Stop s' R' → N (pkA b ptE s' :: e1 :: pk 0 R' :: rest) (.bool false)
  | _ => False
def ptK : Tbl := [(81, inl Tryz.prog [] true Tryz.f81 100), (80, srtIC 94 3)]
def ptG : Tbl := (16, adtC ptE getM) :: ptK
def ptAr : Tbl := [(36, inl Tryz.prog [] true Tryz.f36 100)]
end Go.Proofs.YtkcmgcoppecfpaaGreat

/- The first place of a row at which something holds. -/
namespace Go.Proofs.YtkcmgcoppecfpaaGreat
open Go Go.RowKit

def fIdx {α : Type} (p : α → Bool) : List α → Nat → Int
  | [], _ => -1
  | x :: l, i => match p x with
    | true => (i : Int)
    | false => fIdx p l (i + 1)
theorem fIdx_drop {α : Type} (p : α → Bool) (d : α) (xs : List α) (i : Nat) (h : i < xs.length) : fIdx p (xs.drop i) i = match p (xs.getD i d) with | true => (i : Int) | false => fIdx p (xs.drop (i + 1)) (i + 1) := by
  have e : xs.drop i = xs.getD i d :: xs.drop (i + 1) := by
    rw [List.drop_eq_getElem_cons h]
    simp [List.getD, h]
  rw [e]
  rfl
theorem fIdx_none {α : Type} (p : α → Bool) : ∀ (xs : List α) (i : Nat), (∀ x ∈ xs, p x = false) → fIdx p xs i = -1
  | [], _, _ => rfl
  | x :: l, i, h => by
    simp only [fIdx, h x List.mem_cons_self]
    exact fIdx_none p l (i + 1) fun y hy => h y (List.mem_cons_of_mem _ hy)
theorem fIdx_split {α : Type} (p : α → Bool) (x : α) (l2 : List α) (hx : p x = true) : ∀ (l1 : List α) (i : Nat), (∀ y ∈ l1, p y = false) → fIdx p (l1 ++ x :: l2) i = ((i + l1.length : Nat) : Int)
  | [], i, _ => by simp [fIdx, hx]
  | y :: l1, i, h => by
    simp only [List.cons_append, fIdx, h y List.mem_cons_self]
    rw [fIdx_split p x l2 hx l1 (i + 1) fun z hz => h z (List.mem_cons_of_mem _ hz)]
    simp only [List.length_cons]
    congr 1
    omega
theorem setN_selfR {α : Type 1} {l : Nat} {v : α} : ∀ {h : List α}, nth h l = some v → setN h l v = h := by
  induction l with
  | zero => intro h hl; cases h <;> simp [nth, setN] at hl ⊢; exact hl.symm
  | succ l ih => intro h hl; cases h <;> simp [nth, setN] at hl ⊢; exact ih hl
theorem getD_mid {α : Type} (l1 : List α) (x : α) (l2 : List α) (d : α) : (l1 ++ x :: l2).getD l1.length d = x := by simp [List.getD]
theorem set_mid {α : Type} (l1 : List α) (x y : α) (l2 : List α) : (l1 ++ x :: l2).set l1.length y = l1 ++ y :: l2 := by simp
theorem drop_mid {α : Type} (l1 : List α) (x : α) (l2 : List α) : (l1 ++ x :: l2).drop (l1.length + 1) = l2 := by
  rw [List.drop_append]
  simp
theorem set_sameR {α : Type} {xs : List α} {i : Nat} {d : α} (h : i < xs.length) : xs.set i (xs.getD i d) = xs := by
  refine List.ext_getElem? fun j => ?_
  rw [List.getElem?_set]
  split
  · rename_i e; subst e
    simp [List.getD, h]
  · rfl
end Go.Proofs.YtkcmgcoppecfpaaGreat

/- The document's table of processes: what it holds; what its methods do. -/
namespace Go.Proofs.YtkcmgcoppecfpaaGreat
open Go Go.RowKit

structure RT where
  (t : PT) (ao : Option Addr) (cap : Nat)
def rL (t : PT) : List PR := t.ps.map (·.2)
def rtE (s : RT) (b : Nat) : List Ent := [⟨.blk b, .cells [.vec 1 s.ao (rL s.t).length s.cap, .int .i64 s.t.room, .int .i64 s.t.last] 137⟩, ⟨.sl s.ao s.cap, .vecL 134 8 encR (rL s.t) PR.zero⟩]
def rAtV (t : PT) (pid : Int) : Int := fIdx (fun r : PR => r.pid == pid) (rL t) 0
def rLivesV (t : PT) (pid : Int) : Int := match pLive t pid with
  | true => rAtV t pid
  | false => -1
def rtIdxC (v : PT → Int → Int) : Ctr := fun args hs N => match args with
  | [.ptr l b 0, .int .i64 pid] => ∃ (t : PT) (l1 : Nat) (ao : Option Addr) (cap : Nat), nth hs l = some ⟨.blk b, .cells [.vec l1 ao (rL t).length cap, .int .i64 t.room, .int .i64 t.last] 137⟩ ∧ nth hs l1 = some ⟨.sl ao cap, .vecL 134 8 encR (rL t) PR.zero⟩ ∧ (Nat.beq l l1 = false ∧ pOk t) ∧ N hs (.int .i64 (v t pid))
  | _ => False
def rtSpawnC : Ctr := fun args hs N => match args with
  | [.ptr l b 0, .int .i64 pid, .str g, .str c] => ∃ (t : PT) (l1 : Nat) (ao : Option Addr) (cap : Nat), nth hs l = some ⟨.blk b, .cells [.vec l1 ao (rL t).length cap, .int .i64 t.room, .int .i64 t.last] 137⟩ ∧ nth hs l1 = some ⟨.sl ao cap, .vecL 134 8 encR (rL t) PR.zero⟩ ∧ (Nat.beq l l1 = false ∧ pOk t) ∧
      ∃ nb, ∀ ao' cap', N (setN (setN hs l ⟨.blk b, .cells [.vec l1 ao' (rL (pSpawn t pid g c nb).1).length cap', .int .i64 (pSpawn t pid g c nb).1.room, .int .i64 (pSpawn t pid g c nb).1.last] 137⟩) l1 ⟨.sl ao' cap', .vecL 134 8 encR (rL (pSpawn t pid g c nb).1) PR.zero⟩) (.tuple [.int .i64 (pSpawn t pid g c nb).2.1, .int .i64 (pSpawn t pid g c nb).2.2])
  | _ => False
def raSpawnM (s : RT) (args : List SV) (N : RT → SV → Prop) : Prop := match args with
  | [.int .i64 parent, .str group, .str cmd] => pOk s.t ∧ ∃ nb, ∀ ao cap, N ⟨(pSpawn s.t parent group cmd nb).1, ao, cap⟩ (.tuple [.int .i64 (pSpawn s.t parent group cmd nb).2.1, .int .i64 (pSpawn s.t parent group cmd nb).2.2])
  | _ => False
def raForkM (s : RT) (args : List SV) (N : RT → SV → Prop) : Prop := match args with
  | [.int .i64 pid] => pOk s.t ∧ ∃ nb, ∀ ao cap, N ⟨(pFork s.t pid nb).1, ao, cap⟩ (.tuple [.int .i64 (pFork s.t pid nb).2.1, .int .i64 (pFork s.t pid nb).2.2])
  | _ => False
def raExitM (s : RT) (args : List SV) (N : RT → SV → Prop) : Prop := match args with
  | [.int .i64 pid, .int .i64 status] => pOk s.t ∧ N ⟨(pExit s.t pid status).1, s.ao, s.cap⟩ (.int .i64 (pExit s.t pid status).2)
  | _ => False
def raKillM (s : RT) (args : List SV) (N : RT → SV → Prop) : Prop := match args with
  | [.int .i64 pid, .int .i64 sig] => pOk s.t ∧ N ⟨(pKill s.t pid sig).1, s.ao, s.cap⟩ (.int .i64 (pKill s.t pid sig).2)
  | _ => False
def raSignalsM (s : RT) (args : List SV) (N : RT → SV → Prop) : Prop := match args with
  | [.int .i64 pid] => pOk s.t ∧ N s (.tuple [.bool (pGet s.t pid).term, .bool (pGet s.t pid).kill])
  | _ => False
def raGetM (s : RT) (args : List SV) (N : RT → SV → Prop) : Prop := match args with
  | [.int .i64 pid] => pOk s.t ∧ N s (.tuple [.agg (encP6 (pGet s.t pid)), .bool (pHas s.t pid)])
  | _ => False
def raReapM (s : RT) (args : List SV) (N : RT → SV → Prop) : Prop := match args with
  | [.int .i64 parent] => pOk s.t ∧ ∀ ao cap, N ⟨(pReap s.t parent).1, ao, cap⟩ (.tuple [.agg (encP6 (pReap s.t parent).2.1), .int .i64 (pReap s.t parent).2.2])
  | _ => False
def rNewC : Ctr := fun args hs N => match args with
  | [.int .i64 room] => ∃ bm bp, ∀ b ao cap, N (snoc hs (pkA b rtE ⟨pNew room bm bp, ao, cap⟩)) (.ptr (lenN hs) b 0)
  | _ => False
def rAllC : Ctr := fun args hs N => match args with
  | [.ptr l b 0] => match nth hs l with
    | some ⟨.blk b', .adt (σ := σ') p s⟩ => b' = b ∧ ∃ h : σ' = RT, AdtIs p rtE ∧ pOk (cast h s).t ∧
        ∀ ao cap, N (snoc hs ⟨.sl ao cap, .vecL 38 6 encP6 (rL (cast h s).t) PR.zero⟩) (.vec (lenN hs) ao (rL (cast h s).t).length cap)
    | _ => False
  | _ => False
def procsC : Ctr := fun args hs N => match args with
  | [.vec l ao n cap, .vec l' ao' n' cap'] => ∃ xs : List PR, nth hs l = some ⟨.sl ao cap, .vecL 38 6 encP6 xs PR.zero⟩ ∧ nth hs l' = some ⟨.sl ao' cap', .vecL 38 6 encP6 xs PR.zero⟩ ∧ (Nat.beq l l' = false ∧ n = xs.length ∧ n' = xs.length ∧ xs.length ≤ 1000000) ∧ N hs (.bool true)
  | _ => False
def rtL : Tbl := [(90, rtIdxC rAtV)]
def rtLv : Tbl := (74, rtIdxC rLivesV) :: rtL
def rtSp : Tbl := (66, rtSpawnC) :: rtLv
end Go.Proofs.YtkcmgcoppecfpaaGreat

/- The document's groups (reveilleref9). -/
namespace Go.Proofs.YtkcmgcoppecfpaaGreat
open Go Go.RowKit

structure RGrp where
  (name : ByteArray) (ao : Option Addr) (cap : Nat) (pids : List Int)
structure RG where
  (aoL : Option Addr) (capL : Nat) (L : List RGrp) (aoN : Option Addr) (capN : Nat) (notes : List ByteArray)
def encRg (g : RGrp) : List SV := [.str g.name, .vec 4 g.ao g.pids.length g.cap]
def zR : RGrp := ⟨⟨#[]⟩, none, 0, []⟩
def pidE (g : RGrp) : Ent := ⟨.sl g.ao g.cap, .vecL 3 1 encI1 g.pids 0⟩
def rgE (r : RG) (b : Nat) : List Ent := [⟨.blk b, .cells [.vec 1 r.aoL r.L.length r.capL, .vec 2 r.aoN r.notes.length r.capN] 126⟩, ⟨.sl r.aoL r.capL, .vecL 131 2 encRg r.L zR⟩, ⟨.sl r.aoN r.capN, .vecL 9 1 encS r.notes ByteArray.empty⟩, pk 0 (r.L.map pidE)]
def rAt (L : List RGrp) (name : ByteArray) : Nat := (L.takeWhile fun g => sLt g.name name).length
def rHas (L : List RGrp) (name : ByteArray) : Bool := decide (rAt L name < L.length) && sEq (L.getD (rAt L name) zR).name name
def rMake (r : RG) (name : ByteArray) (ao : Option Addr) (cap : Nat) : RG × Int := match sEq name ⟨#[]⟩ with
  | true => (r, 90)
  | false => match rHas r.L name with
    | true => (r, 91)
    | false => ({ r with L := r.L.take (rAt r.L name) ++ ⟨name, none, 0, []⟩ :: r.L.drop (rAt r.L name), aoL := ao, capL := cap }, 0)
def rOf (L : List RGrp) (pid : Int) : Option ByteArray := (L.find? fun g => g.pids.contains pid).map (·.name)
def rSet (L : List RGrp) (i : Nat) (l : List Int) (ao : Option Addr) (cap : Nat) : List RGrp := L.set i { L.getD i zR with pids := l, ao := ao, cap := cap }
def rGone (r : RG) (pid : Int) (ao : Option Addr) (cap : Nat) (aoN : Option Addr) (capN : Nat) : RG × Bool := match rOf r.L pid with
  | none => (r, false)
  | some n => match (((r.L.getD (rAt r.L n) zR).pids.filter fun p => p != pid).length == 0) && !(r.notes.any fun x => sEq x n) with
    | true => ({ r with L := rSet r.L (rAt r.L n) ((r.L.getD (rAt r.L n) zR).pids.filter fun p => p != pid) ao cap, notes := r.notes ++ [n], aoN := aoN, capN := capN }, true)
    | false => ({ r with L := rSet r.L (rAt r.L n) ((r.L.getD (rAt r.L n) zR).pids.filter fun p => p != pid) ao cap }, true)
def insI (l : List Int) (p : Int) : List Int := l.takeWhile (fun x => decide (x < p)) ++ p :: l.dropWhile (fun x => decide (x < p))
def rPut2 (r : RG) (pid : Int) (name : ByteArray) (ao : Option Addr) (cap : Nat) : RG := { r with L := rSet r.L (rAt r.L name) (insI (r.L.getD (rAt r.L name) zR).pids pid) ao cap }
def rIn (L : List RGrp) (pid : Int) (name : ByteArray) : Bool := match rOf L pid with
  | some n => sEq n name
  | none => false
def rPut (r : RG) (pid : Int) (name : ByteArray) (ao1 : Option Addr) (cap1 : Nat) (aoN : Option Addr) (capN : Nat) (ao : Option Addr) (cap : Nat) : RG × Int := match !rHas r.L name || decide (pid < 2) with
  | true => (r, 90)
  | false => match rIn r.L pid name with
    | true => (r, 0)
    | false => (rPut2 (rGone r pid ao1 cap1 aoN capN).1 pid name ao cap, 0)
def rMem (L : List RGrp) (name : ByteArray) : List Int := match rHas L name with
  | true => (L.getD (rAt L name) zR).pids
  | false => []
def rFirst (L : List RGrp) : List ByteArray → List ByteArray × Option ByteArray
  | [] => ([], none)
  | n :: l => match rHas L n && ((L.getD (rAt L n) zR).pids.length == 0) with
    | true => (l, some n)
    | false => rFirst L l
def rOk (r : RG) : Prop := r.L.length ≤ 1000 ∧ r.notes.length ≤ 1000000 ∧ ∀ g ∈ r.L, g.pids.length ≤ 1000
def ratM (r : RG) (args : List SV) (N : RG → SV → Prop) : Prop := match args with
  | [.str name] => rOk r ∧ N r (.tuple [.int .i64 (rAt r.L name : Int), .bool (rHas r.L name)])
  | _ => False
def rmakeM (r : RG) (args : List SV) (N : RG → SV → Prop) : Prop := match args with
  | [.str name] => rOk r ∧ ∀ ao cap, N (rMake r name ao cap).1 (.int .i64 (rMake r name ao cap).2)
  | _ => False
def rofM (r : RG) (args : List SV) (N : RG → SV → Prop) : Prop := match args with
  | [.int .i64 pid] => rOk r ∧ N r (.tuple [.str ((rOf r.L pid).getD ⟨#[]⟩), .bool (rOf r.L pid).isSome])
  | _ => False
def rAtOk (L : List RGrp) (pid : Int) : Prop := ∀ n, rOf L pid = some n → rHas L n = true
def rgoneM (r : RG) (args : List SV) (N : RG → SV → Prop) : Prop := match args with
  | [.int .i64 pid] => (rOk r ∧ rAtOk r.L pid) ∧ ∀ ao cap aoN capN, N (rGone r pid ao cap aoN capN).1 (.bool (rGone r pid ao cap aoN capN).2)
  | _ => False
def rputM (r : RG) (args : List SV) (N : RG → SV → Prop) : Prop := match args with
  | [.int .i64 pid, .str name] => ((rOk r ∧ r.notes.length ≤ 10000) ∧ rAtOk r.L pid) ∧ ∀ ao1 cap1 aoN capN ao cap, N (rPut r pid name ao1 cap1 aoN capN ao cap).1 (.int .i64 (rPut r pid name ao1 cap1 aoN capN ao cap).2)
  | _ => False
def remptiedM (r : RG) (args : List SV) (N : RG → SV → Prop) : Prop := match args with
  | [] => rOk r ∧ ∀ ao cap, N { r with notes := (rFirst r.L r.notes).1, aoN := ao, capN := cap } (.tuple [.str ((rFirst r.L r.notes).2.getD ⟨#[]⟩), .bool (rFirst r.L r.notes).2.isSome])
  | _ => False
def rmembersC : Ctr := fun args hs N => match args with
  | [.ptr l b 0, .str name] => match nth hs l with
    | some ⟨.blk b', .adt (σ := σ') p r⟩ => b' = b ∧ ∃ h : σ' = RG, AdtIs p rgE ∧ rOk (cast h r) ∧
        ∀ ao cap, N (snoc hs ⟨.sl ao cap, .vecL 3 1 encI1 (rMem (cast h r).L name) 0⟩) (.vec (lenN hs) ao (rMem (cast h r).L name).length cap)
    | _ => False
  | _ => False
end Go.Proofs.YtkcmgcoppecfpaaGreat

/- KernPlays: datagrams. -/
namespace Go.Proofs.YtkcmgcoppecfpaaGreat
open Go Go.RowKit

structure DG where
  (pid : Int) (text : ByteArray)
def encDG (d : DG) : List SV := [.int .i64 d.pid, .str d.text]
def DG.zero : DG := ⟨0, ⟨#[]⟩⟩
structure PO where
  (vm : Value) (ao : Option Addr) (cap : Nat) (ds : List DG) (last : Int)
def poE (s : PO) (b : Nat) : List Ent := [⟨.blk b, .cells [.raw s.vm, .vec 1 s.ao s.ds.length s.cap, .int .i64 s.last] 145⟩, ⟨.sl s.ao s.cap, .vecL 168 2 encDG s.ds DG.zero⟩]
structure SD where
  (vm : Value) (nx : Int) (ao : Option Addr) (cap : Nat) (ds : List DG)
def sdE (s : SD) (b : Nat) : List Ent := [⟨.blk b, .cells [.raw s.vm, .int .i64 s.nx, .vec 1 s.ao s.ds.length s.cap] 86⟩, ⟨.sl s.ao s.cap, .vecL 168 2 encDG s.ds DG.zero⟩]
def dgAdd (ds : List DG) (pid : Int) (text : ByteArray) : List DG × Int := match decide ((text.size : Int) > 200) with
  | true => (ds, 100)
  | false => match decide ((ds.length : Int) ≥ 16) with
    | true => (ds, 102)
    | false => (ds ++ [⟨pid, text⟩], 0)
def sendPM (s : PO) (args : List SV) (N : PO → SV → Prop) : Prop := match args with
  | [.int .i64 pid, .str text] => s.ds.length ≤ 100 ∧ ∀ ao cap, N ⟨s.vm, ao, cap, (dgAdd s.ds pid text).1, s.last⟩ (.int .i64 (dgAdd s.ds pid text).2)
  | _ => False
def sendSM (s : SD) (args : List SV) (N : SD → SV → Prop) : Prop := match args with
  | [.int .i64 pid, .str text] => s.ds.length ≤ 100 ∧ ∀ ao cap, N ⟨s.vm, s.nx, ao, cap, (dgAdd s.ds pid text).1⟩ (.int .i64 (dgAdd s.ds pid text).2)
  | _ => False
def inR (a : Int) : Prop := -9223372036854775808 ≤ a ∧ a ≤ 9223372036854775807
def raddC : Ctr := fun args hs N => match args with
  | [.int .i64 a, .int .i64 c] => (inR a ∧ inR c) ∧ N hs (.int .i64 (addS a c))
  | _ => False
def rtickC : Ctr := fun args hs N => match args with
  | [.ptr l b 0, .int .i64 n] => match nth hs l with
    | some ⟨.blk b', .cells [c0, c1, c2, c3, .int .i64 m, .int .i64 w] T⟩ => (b' = b ∧ T = 60 ∧ inR m ∧ inR w ∧ inR n) ∧ match decide (n < 0) with
      | true => N hs (.int .i64 10)
      | false => N (setN hs l ⟨.blk b, .cells [c0, c1, c2, c3, .int .i64 (addS m n), .int .i64 (addS w n)] 60⟩) (.int .i64 0)
    | _ => False
  | _ => False
def rkillGC : Ctr := fun args hs N => match args with
  | [.ptr l b 0, .str g, .int .i64 sig] => match nth hs l with
    | some ⟨.blk b', .cells [.ptr lp bp 0, .ptr lg bg 0, _, _, _, _] T⟩ => (b' = b ∧ T = 60 ∧ distinct [l, lg, lp] = true) ∧ match nth hs lp with
      | some ⟨.blk bp', .adt (σ := σp) pp s⟩ => match nth hs lg with
        | some ⟨.blk bg', .adt (σ := σg) pg r⟩ => (bp' = bp ∧ bg' = bg) ∧ ∃ h1 : σp = RT, ∃ h2 : σg = RG, AdtIs pp rtE ∧ AdtIs pg rgE ∧ (pOk (cast h1 s).t ∧ rOk (cast h2 r) ∧ (rMem (cast h2 r).L g).length ≤ 100000) ∧
            N (setN hs lp (pkA bp rtE ⟨(kgAll (cast h1 s).t sig (rMem (cast h2 r).L g)).1, (cast h1 s).ao, (cast h1 s).cap⟩)) (.int .i64 (kgAll (cast h1 s).t sig (rMem (cast h2 r).L g)).2)
        | _ => False
      | _ => False
    | _ => False
  | _ => False
def newPoC : Ctr := fun args hs N => match args with
  | [] => ∀ b vm, N (snoc hs (pkA b poE ⟨vm, none, 0, [], 0⟩)) (.ptr (lenN hs) b 0)
  | _ => False
end Go.Proofs.YtkcmgcoppecfpaaGreat

namespace Go.Proofs.YtkcmgcoppecfpaaGreat
open Go Go.RowKit

@[reducible] def pse_run_z0 (b : Nat) (s : PO) : Ent := Ent.mk (Loc.blk b) (SObj.cells [SV.raw s.1, SV.vec 1 s.ao (List.length s.4) s.3, SV.int .i64 s.5] 145)
@[reducible] def pse_run_z1 (s : PO) : Ent := Ent.mk (Loc.sl s.ao s.3) (SObj.vecL 168 2 encDG s.4 DG.zero)
theorem pse_run (K : List Frm → Sy → Prop) (N : List Ent → SV → Prop) (b : Nat) (s : PO) (pid : Int) (text : ByteArray) : (run Tryz.prog [(91, inl Tryz.prog [] true Tryz.f91 200)] false [] K (retP Tryz.prog Tryz.f75.results.toList N) 900 [.code (bodyOf Tryz.f75)] ⟨padTo 18 [.ptr 0 b 0, .int .i64 pid, .str text], [⟨.blk b, .cells [.raw s.vm, .vec 1 s.ao s.ds.length s.cap, .int .i64 s.last] 145⟩, ⟨.sl s.ao s.cap, .vecL 168 2 encDG s.ds DG.zero⟩]⟩) = ( match decide ((↑(ByteArray.size text) : Int) > (200 : Int)) with
 | true => N [pse_run_z0 b s, pse_run_z1 s] (SV.int .i64 100)
 | false => (true = true ∧ true = true) ∧ true = true ∧ true = true ∧ ∀ (b_1 : Nat), b = b ∧ match decide ((↑(List.length s.4) : Int) ≥ (16 : Int)) with
  | true => N [pse_run_z0 b s, pse_run_z1 s, Ent.mk (Loc.blk b_1) (SObj.cells [SV.int .i64 pid, SV.str text] 168)] (SV.int .i64 102)
  | false => b = b ∧ (b_1 = b_1 ∧ 2 = 2) ∧ (true = true ∧ 2 = 2 ∧ 0 < 2 ∧ 2 ≤ 16777216) ∧ ∀ (b_2 : Nat), (pse_run_z0 b s = pse_run_z0 b s ∧ pse_run_z1 s = pse_run_z1 s ∧ Ent.mk (Loc.blk b_1) (SObj.cells [SV.int .i64 pid, SV.str text] 168) = Ent.mk (Loc.blk b_1) (SObj.cells [SV.int .i64 pid, SV.str text] 168) ∧ True) ∧ (s.ao = s.ao ∧ s.3 = s.3 ∧ List.length s.4 = List.length s.4 ∧ some (Addr.mk b_2 0 (@none Nat)) = some (Addr.mk b_2 0 (@none Nat)) ∧ 168 = 168 ∧ 2 = 2 ∧ 2 = 2 ∧ 0 < 1 ∧ true = true ∧ (List.length s.4 + 1) * 24 ≤ 140737488355328 ∧ List.length s.4 + 1 ≤ 9223372036854775807) ∧ ∃ (es : List DG), List.length es = 1 ∧ denL (List.flatMap encDG es) = denL [SV.int .i64 pid, SV.str text] ∧ ∀ (ao2 : Option Addr) (cap2 : Nat), List.length s.4 + 1 ≤ cap2 → (b = b ∧ true = true ∧ 1 = 1 ∧ 2 ≤ 3) ∧ N [Ent.mk (Loc.blk b) (SObj.cells [SV.raw s.1, SV.vec 1 ao2 (List.length s.4 + 1) cap2, SV.int .i64 s.5] 145), Ent.mk (Loc.sl ao2 cap2) (SObj.vecL 168 2 encDG (s.4 ++ es) DG.zero), Ent.mk (Loc.blk b_1) (SObj.cells [SV.int .i64 pid, SV.str text] 168), Ent.mk (Loc.blk b_2) (SObj.cells [SV.int .i64 pid, SV.str text] 168)] (SV.int .i64 0)) := by kernel_rfl
@[reducible] def rse_run_z0 (b : Nat) (s : SD) : Ent := Ent.mk (Loc.blk b) (SObj.cells [SV.raw s.1, SV.int .i64 s.2, SV.vec 1 s.ao (List.length s.5) s.4] 86)
theorem rse_run (K : List Frm → Sy → Prop) (N : List Ent → SV → Prop) (b : Nat) (s : SD) (pid : Int) (text : ByteArray) : (run Tryz.prog [] false [200001] K (retP Tryz.prog Tryz.f76.results.toList N) 900 [.code (bodyOf Tryz.f76)] ⟨padTo 41 [.ptr 0 b 0, .int .i64 pid, .str text], [⟨.blk b, .cells [.raw s.vm, .int .i64 s.nx, .vec 1 s.ao s.ds.length s.cap] 86⟩, ⟨.sl s.ao s.cap, .vecL 168 2 encDG s.ds DG.zero⟩]⟩) = ( match decide ((↑(ByteArray.size text) : Int) > (200 : Int)) with
 | true => N [rse_run_z0 b s, Ent.mk (Loc.sl s.ao s.4) (SObj.vecL 168 2 encDG s.5 DG.zero)] (SV.int .i64 100)
 | false => b = b ∧ match decide ((↑(List.length s.5) : Int) ≥ (16 : Int)) with
  | true => N [rse_run_z0 b s, Ent.mk (Loc.sl s.ao s.4) (SObj.vecL 168 2 encDG s.5 DG.zero)] (SV.int .i64 102)
  | false => b = b ∧ b = b ∧ b = b ∧ (true = true ∧ true = true) ∧ ((s.ao = s.ao ∧ s.4 = s.4 ∧ List.length s.5 = List.length s.5 ∧ (↑(List.length s.5) : Int) = (↑(List.length s.5) : Int) ∧ (↑(List.length s.5) : Int) = (↑(List.length s.5) : Int)) ∧ (rse_run_z0 b s = rse_run_z0 b s ∧ True) ∧ (true = true ∧ 2 = 2 ∧ 0 < 2 ∧ 2 ≤ 16777216) ∧ ∀ (b_1 : Nat), (rse_run_z0 b s = rse_run_z0 b s ∧ True) ∧ (s.ao = s.ao ∧ List.length s.5 = List.length s.5 ∧ List.length s.5 = List.length s.5 ∧ some (Addr.mk b_1 0 (@none Nat)) = some (Addr.mk b_1 0 (@none Nat)) ∧ 168 = 168 ∧ 2 = 2 ∧ 2 = 2 ∧ 0 < 1 ∧ true = true ∧ (List.length s.5 + 1) * 24 ≤ 140737488355328 ∧ List.length s.5 + 1 ≤ 9223372036854775807) ∧ ∃ (es : List DG), List.length es = 1 ∧ denL (List.flatMap encDG es) = denL [SV.int .i64 pid, SV.str text] ∧ ∀ (ao2 : Option Addr) (cap2 : Nat), List.length s.5 + 1 ≤ cap2 → (rse_run_z0 b s = rse_run_z0 b s ∧ True) ∧ (b = b ∧ true = true ∧ 1 = 1 ∧ 3 ≤ 3) ∧ N [Ent.mk (Loc.blk b) (SObj.cells [SV.raw s.1, SV.int .i64 s.2, SV.vec 1 ao2 (List.length s.5 + 1) cap2] 86), Ent.mk (Loc.sl ao2 cap2) (SObj.vecL 168 2 encDG (s.5 ++ es) DG.zero), Ent.mk (Loc.blk b_1) (SObj.cells [SV.int .i64 pid, SV.str text] 168)] (SV.int .i64 0)) ∧ (true = true ∧ 2 = 2 ∧ 0 < 2 ∧ 2 ≤ 16777216) ∧ ∀ (b_1 : Nat), (rse_run_z0 b s = rse_run_z0 b s ∧ True) ∧ (s.ao = s.ao ∧ s.4 = s.4 ∧ List.length s.5 = List.length s.5 ∧ (↑(List.length s.5) : Int) = (↑(List.length s.5) : Int) ∧ (↑(List.length s.5) : Int) = (↑(List.length s.5) : Int)) ∧ (rse_run_z0 b s = rse_run_z0 b s ∧ True) ∧ (s.ao = s.ao ∧ List.length s.5 = List.length s.5 ∧ List.length s.5 = List.length s.5 ∧ some (Addr.mk b_1 0 (@none Nat)) = some (Addr.mk b_1 0 (@none Nat)) ∧ 168 = 168 ∧ 2 = 2 ∧ 2 = 2 ∧ 0 < 1 ∧ true = true ∧ (List.length s.5 + 1) * 24 ≤ 140737488355328 ∧ List.length s.5 + 1 ≤ 9223372036854775807) ∧ ∃ (es : List DG), List.length es = 1 ∧ denL (List.flatMap encDG es) = denL [SV.int .i64 pid, SV.str text] ∧ ∀ (ao2 : Option Addr) (cap2 : Nat), List.length s.5 + 1 ≤ cap2 → (rse_run_z0 b s = rse_run_z0 b s ∧ True) ∧ (b = b ∧ true = true ∧ 1 = 1 ∧ 3 ≤ 3) ∧ N [Ent.mk (Loc.blk b) (SObj.cells [SV.raw s.1, SV.int .i64 s.2, SV.vec 1 ao2 (List.length s.5 + 1) cap2] 86), Ent.mk (Loc.sl ao2 cap2) (SObj.vecL 168 2 encDG (s.5 ++ es) DG.zero), Ent.mk (Loc.blk b_1) (SObj.cells [SV.int .i64 pid, SV.str text] 168)] (SV.int .i64 0)) := by kernel_rfl
theorem radd_run (K : List Frm → Sy → Prop) (N : List Ent → SV → Prop) (a c : Int) : (run Tryz.prog [] false [] K (retP Tryz.prog Tryz.f78.results.toList N) 600 [.code (bodyOf Tryz.f78)] ⟨padTo 33 [.int .i64 a, .int .i64 c], []⟩) = ( match a == (9223372036854775807 : Int) with
 | true => N [] (SV.int .i64 9223372036854775807)
 | false => match c == (9223372036854775807 : Int) with
  | true => N [] (SV.int .i64 9223372036854775807)
  | false => match decide (a < (0 : Int)) == decide (c < (0 : Int)) with
   | true => match !decide (IntKind.wrap IntKind.i64 (IntKind.wrap IntKind.u64 (IntKind.wrap IntKind.u64 a + IntKind.wrap IntKind.u64 c)) < (0 : Int)) == decide (a < (0 : Int)) with
    | true => match decide (a < (0 : Int)) with
     | true => N [] (SV.int .i64 (-9223372036854775808 : Int))
     | false => N [] (SV.int .i64 9223372036854775807)
    | false => N [] (SV.int .i64 (IntKind.wrap IntKind.i64 (IntKind.wrap IntKind.u64 (IntKind.wrap IntKind.u64 a + IntKind.wrap IntKind.u64 c))))
   | false => N [] (SV.int .i64 (IntKind.wrap IntKind.i64 (IntKind.wrap IntKind.u64 (IntKind.wrap IntKind.u64 a + IntKind.wrap IntKind.u64 c))))) := by kernel_rfl
@[reducible] def rtick_run_z0 (b : Nat) (c0 : SV) (c1 : SV) (c2 : SV) (c3 : SV) (m : Int) (w : Int) : Ent := Ent.mk (Loc.blk b) (SObj.cells [c0, c1, c2, c3, SV.int .i64 m, SV.int .i64 w] 60)
theorem rtick_run (K : List Frm → Sy → Prop) (N : List Ent → SV → Prop) (b : Nat) (c0 c1 c2 c3 : SV) (m w n : Int) : (run Tryz.prog [(78, raddC)] true [200001] K (retP Tryz.prog Tryz.f34.results.toList N) 600 [.code (bodyOf Tryz.f34)] ⟨padTo 25 [.ptr 0 b 0, .int .i64 n], [⟨.blk b, .cells [c0, c1, c2, c3, .int .i64 m, .int .i64 w] 60⟩]⟩) = ( match decide (n < (0 : Int)) with
 | true => N [rtick_run_z0 b c0 c1 c2 c3 m w] (SV.int .i64 10)
 | false => b = b ∧ b = b ∧ true = true ∧ (inR m ∧ inR n) ∧ (rtick_run_z0 b c0 c1 c2 c3 m w = rtick_run_z0 b c0 c1 c2 c3 m w ∧ True) ∧ true = true ∧ (inR w ∧ inR n) ∧ (rtick_run_z0 b c0 c1 c2 c3 m w = rtick_run_z0 b c0 c1 c2 c3 m w ∧ True) ∧ (b = b ∧ true = true ∧ 1 = 1 ∧ 5 ≤ 6) ∧ (b = b ∧ true = true ∧ 1 = 1 ∧ 6 ≤ 6) ∧ N [Ent.mk (Loc.blk b) (SObj.cells [c0, c1, c2, c3, SV.int .i64 (addS m n), SV.int .i64 (addS w n)] 60)] (SV.int .i64 0)) := by kernel_rfl
theorem r11_run (K : List Frm → Sy → Prop) (N : List Ent → SV → Prop) : (run Tryz.prog [] false [] K (retP Tryz.prog Tryz.f63.results.toList N) 600 [.code (bodyOf Tryz.f63)] ⟨padTo 5 [], []⟩) = ( (true = true ∧ true = true) ∧ (true = true ∧ 2 = 2 ∧ 0 < 2 ∧ 2 ≤ 16777216) ∧ ∀ (b : Nat), (true = true ∧ true = true) ∧ true = true ∧ ∀ (b_1 : Nat), N [Ent.mk (Loc.blk b) (SObj.cells [SV.str (ByteArray.mk #[(47 : UInt8)]), SV.bool true] 160), Ent.mk (Loc.blk b_1) (SObj.cells [SV.vec 0 (some (Addr.mk b 0 (@none Nat))) 1 1, SV.raw (Value.slice (@none Addr) 0 0), SV.raw (Value.slice (@none Addr) 0 0)] 165)] (SV.ptr 1 b_1 0)) := by kernel_rfl
theorem rkk_start (K : List Frm → Sy → Prop) (N : List Ent → SV → Prop) (b : Nat) (c2 c3 c4 c5 : SV) (bp bg : Nat) (s : RT) (r : RG) (g : ByteArray) (sig : Int) : (run Tryz.prog [(45, rmembersC)] false [] K (retP Tryz.prog Tryz.f27.results.toList N) 300 [.code (bodyOf Tryz.f27)] ⟨padTo 36 [.ptr 0 b 0, .str g, .int .i64 sig], [⟨.blk b, .cells [.ptr 2 bp 0, .ptr 1 bg 0, c2, c3, c4, c5] 60⟩, pkA bg rgE r, pkA bp rtE s]⟩) = ( b = b ∧ true = true ∧ bg = bg ∧ ∃ (h : RG = RG), AdtIs (fun (s : RG) (b : Nat) ↦ packs (rgE s b)) rgE ∧ rOk (cast h r) ∧ ∀ (ao : Option Addr) (cap : Nat), K (frm [] (bodyOf Tryz.f27) [1, 1, 1, 0, 1, 0] []) (Sy.mk (SV.ptr 0 b 0 :: (SV.str g :: (SV.int .i64 sig :: (rawE (SV.int .i64 0 :: (SV.int .i64 0 :: (SV.vec 3 ao (List.length (rMem r.3 g)) cap :: (SV.int .i64 0 :: (SV.ptr 0 b 0 :: (SV.ptr 0 b 0 :: (SV.ptr 0 b 1 :: (SV.ptr 1 bg 0 :: (SV.str g :: (SV.vec 3 ao (List.length (rMem r.3 g)) cap :: (rawE [] 20))))))))))) 3)))) [Ent.mk (Loc.blk b) (SObj.cells [SV.ptr 2 bp 0, SV.ptr 1 bg 0, c2, c3, c4, c5] 60), pkA bg rgE r, pkA bp rtE s, Ent.mk (Loc.sl ao cap) (SObj.vecL 3 1 encI1 (rMem r.3 g) (0 : Int))])) := by kernel_rfl
@[reducible] def rkk_l_z0 (b : Nat) (c2 : SV) (c3 : SV) (c4 : SV) (c5 : SV) (bp : Nat) (bg : Nat) : Ent := Ent.mk (Loc.blk b) (SObj.cells [SV.ptr 3 bp 0, SV.ptr 1 bg 0, c2, c3, c4, c5] 60)
@[reducible] def rkk_l_z1 (al : Option Addr) (cl : Nat) (ms : List Int) : Ent := Ent.mk (Loc.sl al cl) (SObj.vecL 3 1 encI1 ms (0 : Int))
theorem rkk_l (K : List Frm → Sy → Prop) (N : List Ent → SV → Prop) (J : Act → World → Prop) (b : Nat) (c2 c3 c4 c5 : SV) (bp bg : Nat) (s : RT) (r : RG) (g : ByteArray) (sig : Int) (al : Option Addr) (cl : Nat) (ms : List Int) (i : Nat) (n : Int) (u : Nat → Value) : (run Tryz.prog [(26, adtC rtE raKillM)] true [200003] K (retP Tryz.prog Tryz.f27.results.toList N) 600 (frm [J] (bodyOf Tryz.f27) [1, 1, 1, 0, 1, 0, 0] []) ⟨mkT u 36 0 [(0, .ptr 0 b 0), (2, .int .i64 sig), (7, .int .i64 n), (8, .vec 2 al ms.length cl), (9, .int .i64 (i : Int))], [⟨.blk b, .cells [.ptr 3 bp 0, .ptr 1 bg 0, c2, c3, c4, c5] 60⟩, pkA bg rgE r, ⟨.sl al cl, .vecL 3 1 encI1 ms 0⟩, pkA bp rtE s]⟩) = ( match decide ((↑i : Int) < (↑(List.length ms) : Int)) with
 | true => b = b ∧ (al = al ∧ cl = cl ∧ List.length ms = List.length ms ∧ (0 : Int) ≤ (↑i : Int) ∧ (↑i : Int) < (↑(List.length ms) : Int)) ∧ (Addr.blkD al = Addr.blkD al ∧ Addr.offD al = Addr.offD al ∧ 1 = 1 ∧ Int.toNat (↑i : Int) < List.length ms) ∧ true = true ∧ bp = bp ∧ ∃ (h : RT = RT), AdtIs (fun (s : RT) (b : Nat) ↦ packs (rtE s b)) rtE ∧ pOk s.t ∧ (rkk_l_z0 b c2 c3 c4 c5 bp bg = rkk_l_z0 b c2 c3 c4 c5 bp bg ∧ pkA bg rgE r = pkA bg rgE r ∧ rkk_l_z1 al cl ms = rkk_l_z1 al cl ms ∧ True) ∧ match (pKill s.1 (List.getD ms (Int.toNat (↑i : Int)) (0 : Int)) sig).2 == (0 : Int) with
  | true => K (Frm.loop J :: Frm.blk 0 :: frm [] (bodyOf Tryz.f27) [1, 1, 1, 1] []) (Sy.mk (SV.ptr 0 b 0 :: (SV.raw (u 1) :: (SV.int .i64 sig :: (rawR u 3 (SV.int .i64 (IntKind.wrap IntKind.i64 (n + (1 : Int))) :: (SV.vec 2 al (List.length ms) cl :: (SV.int .i64 (IntKind.wrap IntKind.i64 ((↑i : Int) + (1 : Int))) :: (rawR u 10 (SV.int .i64 (↑i : Int) :: (SV.vec 2 al (List.length ms) cl :: (SV.int .i64 (↑(List.length ms) : Int) :: (SV.bool true :: (SV.int .i64 (↑i : Int) :: (SV.int .i64 (IntKind.wrap IntKind.i64 ((↑i : Int) + (1 : Int))) :: (SV.ptr 0 b 0 :: (SV.ptr 0 b 0 :: (SV.ptr 0 b 0 :: (SV.ptr 3 bp 0 :: (SV.vec 2 al (List.length ms) cl :: (SV.int .i64 (↑i : Int) :: (SV.eptr 2 (Addr.blkD al) (Addr.offD al) 1 (Int.toNat (↑i : Int)) 0 :: (SV.int .i64 (List.getD ms (Int.toNat (↑i : Int)) (0 : Int)) :: (SV.int .i64 sig :: (SV.int .i64 (pKill s.1 (List.getD ms (Int.toNat (↑i : Int)) (0 : Int)) sig).2 :: (SV.bool true :: (SV.int .i64 n :: (SV.int .i64 (IntKind.wrap IntKind.i64 (n + (1 : Int))) :: (SV.raw (u 35) :: [])))))))))))))))))))) 6)))) 4)))) [rkk_l_z0 b c2 c3 c4 c5 bp bg, pkA bg rgE r, rkk_l_z1 al cl ms, pkA bp rtE (RT.mk (pKill s.1 (List.getD ms (Int.toNat (↑i : Int)) (0 : Int)) sig).1 s.ao s.3)])
  | false => K (Frm.loop J :: Frm.blk 0 :: frm [] (bodyOf Tryz.f27) [1, 1, 1, 1] []) (Sy.mk (SV.ptr 0 b 0 :: (SV.raw (u 1) :: (SV.int .i64 sig :: (rawR u 3 (SV.int .i64 n :: (SV.vec 2 al (List.length ms) cl :: (SV.int .i64 (IntKind.wrap IntKind.i64 ((↑i : Int) + (1 : Int))) :: (rawR u 10 (SV.int .i64 (↑i : Int) :: (SV.vec 2 al (List.length ms) cl :: (SV.int .i64 (↑(List.length ms) : Int) :: (SV.bool true :: (SV.int .i64 (↑i : Int) :: (SV.int .i64 (IntKind.wrap IntKind.i64 ((↑i : Int) + (1 : Int))) :: (SV.ptr 0 b 0 :: (SV.ptr 0 b 0 :: (SV.ptr 0 b 0 :: (SV.ptr 3 bp 0 :: (SV.vec 2 al (List.length ms) cl :: (SV.int .i64 (↑i : Int) :: (SV.eptr 2 (Addr.blkD al) (Addr.offD al) 1 (Int.toNat (↑i : Int)) 0 :: (SV.int .i64 (List.getD ms (Int.toNat (↑i : Int)) (0 : Int)) :: (SV.int .i64 sig :: (SV.int .i64 (pKill s.1 (List.getD ms (Int.toNat (↑i : Int)) (0 : Int)) sig).2 :: (SV.bool false :: (rawR u 33 [] 3)))))))))))))))))) 6)))) 4)))) [rkk_l_z0 b c2 c3 c4 c5 bp bg, pkA bg rgE r, rkk_l_z1 al cl ms, pkA bp rtE (RT.mk (pKill s.1 (List.getD ms (Int.toNat (↑i : Int)) (0 : Int)) sig).1 s.ao s.3)])
 | false => N [rkk_l_z0 b c2 c3 c4 c5 bp bg, pkA bg rgE r, rkk_l_z1 al cl ms, pkA bp rtE s] (SV.int .i64 n)) := by kernel_rfl
end Go.Proofs.YtkcmgcoppecfpaaGreat

