import Derived.Test.YtihajdkipkfiiaaMgTrackPlays8
import Derived.Test.YtihajdkipkfiiaaMgTrackPlays7
import Derived.Test.YtihajdkipkfiiaaMgTrackPlays6
import Derived.Test.YtihajdkipkfiiaaMgTrackPlays5
/- YtihajdkipkfiiaaSy -/
/- Sync. -/
namespace Go.Proofs.Ytihajdkipkfiiaa
open Go Go.RowKit
set_option linter.unusedVariables false
set_option linter.unusedSimpArgs false
set_option linter.unnecessarySimpa false
set_option maxHeartbeats 0

def syI (ps : List Int) (m : PRow) (ws : List Int) (i : Nat) : Type := { s : Trk // TM s (syGone ps m (ws.take i)).1 }
def syR (b : Nat) (ps : List Int) (ao : Option Addr) (cap b3 b5 b9 : Nat) (m : PRow) (ws : List Int) (t : List Ent) (i : Nat) : List Ent := [exP fun x : syI ps m ws i => ([pkA b trkE x.1, ⟨.sl ao cap, .vecL 3 1 encI1 ps 0⟩, ⟨.blk b3, .cells [.ptr 0 b 0] 55⟩, ⟨.blk b5, .cells [.vec 1 ao ps.length cap] 32⟩, ⟨.blk b9, .cells [.int .i64 (syGone ps m (ws.take i)).2] 3⟩] ++ t)]
theorem syT_ok : AllOk Try.prog syT := ⟨contI_ok, tGone_ok, trivial⟩
theorem syT2_ok : AllOk Try.prog syT2 := ⟨tPut_ok, trivial⟩
section
variable {b : Nat} {ps : List Int} {ao : Option Addr} {cap b3 b5 b9 D l : Nat} {m : PRow} {ws : List Int} {uu : ByteArray} {rc : Loop} {T : List SV} {aw : Option Addr} {cw bx : Nat}
theorem sy_V (hp : ps.length ≤ 1000) (hw : ws.length ≤ 1000000) (hrt : rc.tmps = (denL T).toArray) (hrp : rc.params = rfP (codeAt (bodyOf Try.f53) [1, 1, 1, 0, 1, 0])) (hra : rc.assign = rfA (codeAt (bodyOf Try.f53) [1, 1, 1, 0, 1, 0])) (hrb : rc.body = rfB (codeAt (bodyOf Try.f53) [1, 1, 1, 0, 1, 0]))
    (hl : ∀ v, lenN (setMany T [18] [v]) = 55 ∧ liveOk (setMany T [18] [v]) [(1, .str uu), (3, .ptr 2 b3 0), (5, .ptr 3 b5 0), (8, .int .i64 0), (9, .ptr 4 b9 0), (18, v)]) : OneI (.func (.yield l) #[] #[]) ws (syR b ps ao cap b3 b5 b9 m ws [dent D true, lp l rc .ready none]) (fun _ => False) := by
  intro i x hxi
  obtain ⟨hi, he⟩ := List.getElem?_eq_some_iff.1 hxi
  refine .inr ⟨l, rfl, YSpec.ex (ι := syI ps m ws i) (hs' := fun x => [pkA b trkE x.1, ⟨.sl ao cap, .vecL 3 1 encI1 ps 0⟩, ⟨.blk b3, .cells [.ptr 0 b 0] 55⟩, ⟨.blk b5, .cells [.vec 1 ao ps.length cap] 32⟩, ⟨.blk b9, .cells [.int .i64 (syGone ps m (ws.take i)).2] 3⟩, dent D true, lp l rc .ready none]) (fun W F w hr => Rep.pkex1 hr) ?_⟩
  rintro ⟨s, hs⟩
  refine YSpec.up (YSpec.of_GR (p := 6) (T0 := T) (ps := [18]) rfl hrt hrp hra hrb rfl rfl fun W F => ?_)
  refine GR_live 55 [(1, .str uu), (3, .ptr 2 b3 0), (5, .ptr 3 b5 0), (8, .int .i64 0), (9, .ptr 4 b9 0), (18, .int .i64 x)] [pkA b trkE s, ⟨.sl ao cap, .vecL 3 1 encI1 ps 0⟩, ⟨.blk b3, .cells [.ptr 0 b 0] 55⟩, ⟨.blk b5, .cells [.vec 1 ao ps.length cap] 32⟩, ⟨.blk b9, .cells [.int .i64 (syGone ps m (ws.take i)).2] 3⟩, dent D true, lp l rc .ready none] (hl _).1 (hl _).2 (fun _ h => h) fun u => ?_
  refine runR_sound (kc := true) (ss := []) (Cs := syT) (Y := noY) (K := fun _ _ => False) (fun _ _ h => h.elim) syT_ok (noY_ok _) hmT Ends.assign 60 _ _ ?_
  rw [sy_asg]
  refine ⟨rfl, ?_⟩
  refine GR_live 55 [(1, .str uu), (3, .ptr 2 b3 0), (5, .ptr 3 b5 0), (8, .int .i64 0), (9, .ptr 4 b9 0), (10, .int .i64 x)] [pkA b trkE s, ⟨.sl ao cap, .vecL 3 1 encI1 ps 0⟩, ⟨.blk b3, .cells [.ptr 0 b 0] 55⟩, ⟨.blk b5, .cells [.vec 1 ao ps.length cap] 32⟩, ⟨.blk b9, .cells [.int .i64 (syGone ps m (ws.take i)).2] 3⟩, dent D true, lp l rc .busy none] rfl ⟨rfl, rfl, rfl, rfl, rfl, rfl, trivial⟩ (fun w hr => hr) fun u => ?_
  refine runR_sound (kc := true) (ss := []) (Cs := syT) (Y := noY) (K := fun _ _ => False) (fun _ _ h => h.elim) syT_ok (noY_ok _) hmT (Ends.round (p := 6) (rc := rc) (j := none)) 600 _ _ ?_
  rw [sy_body]
  have hnx := syGone_next ps m ws i hi
  rw [he] at hnx
  have hcn := syGone_cnt ps m (ws.take i)
  have hle : (ws.take i).length ≤ 1000000 := by simp; omega
  have fin : ∀ (s' : Trk) (g : Int), TM s' (syGone ps m (ws.take (i + 1))).1 → g = (syGone ps m (ws.take (i + 1))).2 → ∀ W F w, Rep W F [pkA b trkE s', ⟨.sl ao cap, .vecL 3 1 encI1 ps 0⟩, ⟨.blk b3, .cells [.ptr 0 b 0] 55⟩, ⟨.blk b5, .cells [.vec 1 ao ps.length cap] 32⟩, ⟨.blk b9, .cells [.int .i64 g] 3⟩, dent D true, lp l rc .ready none] w → Rep W F [pk 0 (syR b ps ao cap b3 b5 b9 m ws [dent D true, lp l rc .ready none] (i + 1))] w := fun s' g h1 h2 W F w hr => by
    subst h2
    exact Rep.expk1 (f := fun x : syI ps m ws (i + 1) => ([pkA b trkE x.1, ⟨.sl ao cap, .vecL 3 1 encI1 ps 0⟩, ⟨.blk b3, .cells [.ptr 0 b 0] 55⟩, ⟨.blk b5, .cells [.vec 1 ao ps.length cap] 32⟩, ⟨.blk b9, .cells [.int .i64 (syGone ps m (ws.take (i + 1))).2] 3⟩] ++ [dent D true, lp l rc .ready none])) ⟨s', h1⟩ hr
  refine ⟨rfl, rfl, ps, _, rfl, .inl rfl, ⟨rfl, by omega⟩, ?_⟩
  cases hc : ps.contains x with
  | true =>
    simp only [syG, hc] at hnx
    exact ⟨rfl, [pk 0 (syR b ps ao cap b3 b5 b9 m ws [dent D true, lp l rc .ready none] (i + 1))], .bool true, fin s _ (by rw [hnx]; exact hs) (by rw [hnx]), rfl, .inl ⟨rfl, rfl⟩⟩
  | false =>
    simp only [syG, hc] at hnx
    have w1 : IntKind.wrap .i64 ((syGone ps m (ws.take i)).2 + 1) = (syGone ps m (ws.take (i + 1))).2 := by rw [hnx, IntWalk.i64_in _ (by omega)]
    have e := fin _ _ (by rw [hnx]; exact hs.gone' x) w1
    repeat' first
      | exact rfl
      | exact HEq.rfl
      | exact hs.tok x
      | exact ⟨rfl, [pk 0 (syR b ps ao cap b3 b5 b9 m ws [dent D true, lp l rc .ready none] (i + 1))], .bool true, e, rfl, .inl ⟨rfl, rfl⟩⟩
      | apply And.intro
      | (refine ⟨rfl, ?_⟩)
      | (show _ ≤ _; omega)
      | fail
theorem sy_iter {s : Trk} (h : TM s m) (hp : ps.length ≤ 1000) (hw : ws.length ≤ 1000000) (hrt : rc.tmps = (denL T).toArray) (hrp : rc.params = rfP (codeAt (bodyOf Try.f53) [1, 1, 1, 0, 1, 0])) (hra : rc.assign = rfA (codeAt (bodyOf Try.f53) [1, 1, 1, 0, 1, 0])) (hrb : rc.body = rfB (codeAt (bodyOf Try.f53) [1, 1, 1, 0, 1, 0]))
    (hl : ∀ v, lenN (setMany T [18] [v]) = 55 ∧ liveOk (setMany T [18] [v]) [(1, .str uu), (3, .ptr 2 b3 0), (5, .ptr 3 b5 0), (8, .int .i64 0), (9, .ptr 4 b9 0), (18, v)]) : Spec Try.prog 99 [pkA b trkE s, ⟨.sl ao cap, .vecL 3 1 encI1 ps 0⟩, ⟨.blk b3, .cells [.ptr 0 b 0] 55⟩, ⟨.blk b5, .cells [.vec 1 ao ps.length cap] 32⟩, ⟨.blk b9, .cells [.int .i64 0] 3⟩, ⟨.sl aw cw, .vecL 3 1 encI1 ws 0⟩, ⟨.blk bx, .cells [.vec 5 aw ws.length cw] 32⟩, dent D true, lp l rc .ready none] [.func (.yield l) [] [], .ptr 6 bx 0] fun h _ =>
    ∃ s', TM s' (syGone ps m ws).1 ∧ h = [pkA b trkE s', ⟨.sl ao cap, .vecL 3 1 encI1 ps 0⟩, ⟨.blk b3, .cells [.ptr 0 b 0] 55⟩, ⟨.blk b5, .cells [.vec 1 ao ps.length cap] 32⟩, ⟨.blk b9, .cells [.int .i64 (syGone ps m ws).2] 3⟩, dent D true, lp l rc .ready none, ⟨.blk bx, .cells [.vec 1 aw ws.length cw] 32⟩, ⟨.sl aw cw, .vecL 3 1 encI1 ws 0⟩] := by
  intro W F w hr
  have h1 : Rep W F [⟨.blk bx, .cells [.vec 1 aw ws.length cw] 32⟩, ⟨.sl aw cw, .vecL 3 1 encI1 ws 0⟩, pk 0 (syR b ps ao cap b3 b5 b9 m ws [dent D true, lp l rc .ready none] 0)] w := by
    have h2 := Rep.cellsEq (l := 6) (cs' := [.vec 1 aw ws.length cw]) rfl (by rfl) hr
    refine Rep.pkAt 0 (p := [_, _]) (t := []) ?_
    have h5 := Rep.pick (π := [0, 1, 2, 3, 4, 7, 8, 6, 5]) (by decide) rfl h2
    have h6 : Rep W F ([exP fun x : syI ps m ws 0 => ([pkA b trkE x.1, ⟨.sl ao cap, .vecL 3 1 encI1 ps 0⟩, ⟨.blk b3, .cells [.ptr 0 b 0] 55⟩, ⟨.blk b5, .cells [.vec 1 ao ps.length cap] 32⟩, ⟨.blk b9, .cells [.int .i64 (syGone ps m (ws.take 0)).2] 3⟩] ++ [dent D true, lp l rc .ready none])] ++ [_, _]) w := Rep.ex (f := fun x : syI ps m ws 0 => ([pkA b trkE x.1, ⟨.sl ao cap, .vecL 3 1 encI1 ps 0⟩, ⟨.blk b3, .cells [.ptr 0 b 0] 55⟩, ⟨.blk b5, .cells [.vec 1 ao ps.length cap] 32⟩, ⟨.blk b9, .cells [.int .i64 (syGone ps m (ws.take 0)).2] 3⟩] ++ [dent D true, lp l rc .ready none])) ⟨s, h⟩ h5
    exact Rep.pick (π := [1, 2, 0]) (by decide) rfl h6
  refine Calls.mono (valI_iter (ao := aw) (cap := cw) (bx := bx) hw (sy_V (uu := uu) hp hw hrt hrp hra hrb hl) W F w h1) ?_
  rintro e w' ⟨h', r, ⟨rfl, hc⟩, rfl, hr'⟩
  rcases hc with rfl | ⟨R', hs, rfl⟩
  · have h7 := Rep.unpkAt (p := [_, _]) (t := []) hr'
    have h8 := Rep.pick (π := [2, 0, 1]) (by decide) rfl h7
    obtain ⟨⟨s', hs'⟩, h9⟩ := Rep.unex (t := [_, _]) h8
    rw [List.take_length] at hs'
    refine ⟨_, .tuple [], ⟨s', hs', rfl⟩, rfl, ?_⟩
    dsimp only at h9
    rw [List.take_length] at h9
    exact h9
  · exact hs.elim
end
section
variable {W : World} {F : List Ch} {N : List Ent → SV → Prop} {b : Nat} {ps : List Int} {ao : Option Addr} {cap b3 b5 b9 D l : Nat} {m1 : PRow} {uu : ByteArray} {rc : Loop} {g : Int}
theorem sy_2 {s : Trk} (h : TM s m1) (hp : ps.length ≤ 1000) (hwf : ∀ p ∈ ps, (Lit.int .i64 p).wf = true) (hu : uu ≠ ⟨#[]⟩) (hus : uu.size ≤ 100)
    (hN : ∀ s', TM s' (syNew uu m1 ps).1 → N [pkA b trkE s', ⟨.sl ao cap, .vecL 3 1 encI1 ps 0⟩] (.tuple [.int .i64 (syNew uu m1 ps).2, .int .i64 g])) {tm : List SV} (h1 : lenN tm = 55) (h2 : liveOk tm [(1, .str uu), (3, .ptr 2 b3 0), (5, .ptr 3 b5 0), (8, .int .i64 (syNew uu m1 (ps.take 0)).2), (9, .ptr 4 b9 0), (28, .vec 1 ao ps.length cap), (29, .int .i64 (ps.length : Int)), (30, .int .i64 (0 : Int))]) :
    GR none [markOf D] Try.prog (endR Try.prog Try.f53 W F (up N)) W F (frm [] (bodyOf Try.f53) [1, 1, 1, 1, 0, 1, 0] []) ⟨tm, [pkA b trkE s, ⟨.sl ao cap, .vecL 3 1 encI1 ps 0⟩, ⟨.blk b3, .cells [.ptr 0 b 0] 55⟩, ⟨.blk b5, .cells [.vec 1 ao ps.length cap] 32⟩, ⟨.blk b9, .cells [.int .i64 g] 3⟩, dent D true, lp l rc .exhausted none]⟩ := by
  refine GR_loopAt (ι := Nat × Trk) [] (bodyOf Try.f53) [1, 1, 1, 1, 0, 1, 0] 55 (fun x : Nat × Trk => [(1, .str uu), (3, .ptr 2 b3 0), (5, .ptr 3 b5 0), (8, .int .i64 (syNew uu m1 (ps.take x.1)).2), (9, .ptr 4 b9 0), (28, .vec 1 ao ps.length cap), (29, .int .i64 (ps.length : Int)), (30, .int .i64 (x.1 : Int))]) (fun x : Nat × Trk => [pkA b trkE x.2, ⟨.sl ao cap, .vecL 3 1 encI1 ps 0⟩, ⟨.blk b3, .cells [.ptr 0 b 0] 55⟩, ⟨.blk b5, .cells [.vec 1 ao ps.length cap] 32⟩, ⟨.blk b9, .cells [.int .i64 g] 3⟩, dent D true, lp l rc .exhausted none]) (fun x : Nat × Trk => x.1 ≤ ps.length ∧ TM x.2 (syNew uu m1 (ps.take x.1)).1) (fun x : Nat × Trk => ps.length - x.1) (0, s) (by kernel_rfl) (fun J => by kernel_rfl) ⟨Nat.zero_le _, h⟩ h1 h2 (fun w hw => hw) ?_
  rintro ⟨j, s⟩ ⟨hj, h⟩ u
  dsimp only at hj h
  try dsimp only
  simp only [List.nil_append, List.cons_append]
  refine GR_live 55 [(1, .str uu), (3, .ptr 5 b3 0), (5, .ptr 6 b5 0), (8, .int .i64 (syNew uu m1 (ps.take j)).2), (9, .ptr 7 b9 0), (28, .vec 4 ao ps.length cap), (29, .int .i64 (ps.length : Int)), (30, .int .i64 (j : Int))] [⟨.blk b, .cells [.map 1 s.bo, .map 2 s.bp] 140⟩, ⟨.blk s.bo, .mapL (some .i64) encO s.of⟩, ⟨.blk s.bp, .mapL none encT s.ps⟩, pk 0 (s.ps.map setE), ⟨.sl ao cap, .vecL 3 1 encI1 ps 0⟩, ⟨.blk b3, .cells [.ptr 0 b 0] 55⟩, ⟨.blk b5, .cells [.vec 4 ao ps.length cap] 32⟩, ⟨.blk b9, .cells [.int .i64 g] 3⟩, dent D true, lp l rc .exhausted none] rfl ⟨rfl, rfl, rfl, rfl, rfl, rfl, rfl, rfl, trivial⟩ (fun w hr => Rep.cellsEq (l := 6) (cs' := [.vec 4 ao ps.length cap]) rfl (by rfl) hr.unpkA) fun u => ?_
  refine runR_sound (Cs := []) (Y := noY) (kc := true) (ss := [13, 16]) (fun _ _ h => h) trivial (noY_ok _) hmT (Ends.fnM D 5) 900 _ _ ?_
  rw [sy_l2]
  have hpack : ∀ w, Rep W F [⟨.blk b, .cells [.map 1 s.bo, .map 2 s.bp] 140⟩, ⟨.blk s.bo, .mapL (some .i64) encO s.of⟩, ⟨.blk s.bp, .mapL none encT s.ps⟩, pk 0 (s.ps.map setE), ⟨.sl ao cap, .vecL 3 1 encI1 ps 0⟩, ⟨.blk b3, .cells [.ptr 0 b 0] 55⟩, ⟨.blk b5, .cells [.vec 4 ao ps.length cap] 32⟩, ⟨.blk b9, .cells [.int .i64 g] 3⟩, dent D true, lp l rc .exhausted none] w → Rep W F [pkA b trkE s, ⟨.sl ao cap, .vecL 3 1 encI1 ps 0⟩, ⟨.blk b3, .cells [.ptr 0 b 0] 55⟩, ⟨.blk b5, .cells [.vec 1 ao ps.length cap] 32⟩, ⟨.blk b9, .cells [.int .i64 g] 3⟩, dent D true, lp l rc .exhausted none] w := fun w hr => by
    have g1 : Rep W F (trkE s b ++ [⟨.sl ao cap, .vecL 3 1 encI1 ps 0⟩, ⟨.blk b3, .cells [.ptr 0 b 0] 55⟩, ⟨.blk b5, .cells [.vec 4 ao ps.length cap] 32⟩, ⟨.blk b9, .cells [.int .i64 g] 3⟩, dent D true, lp l rc .exhausted none]) w := hr
    exact Rep.cellsEq (l := 3) (cs' := [.vec 1 ao ps.length cap]) rfl (by rfl) g1.pkA
  cases hlt : decide ((j : Int) < (ps.length : Int)) with
  | false =>
    simp only [decide_eq_false_iff_not] at hlt
    obtain rfl : j = ps.length := by omega
    rw [List.take_length] at h ⊢
    refine GR_live 55 [(8, .int .i64 (syNew uu m1 ps).2), (9, .ptr 4 b9 0)] [pkA b trkE s, ⟨.sl ao cap, .vecL 3 1 encI1 ps 0⟩, ⟨.blk b3, .cells [.ptr 0 b 0] 55⟩, ⟨.blk b5, .cells [.vec 1 ao ps.length cap] 32⟩, ⟨.blk b9, .cells [.int .i64 g] 3⟩, dent D true, lp l rc .exhausted none] rfl ⟨rfl, rfl, trivial⟩ hpack fun u => ?_
    refine runR_sound (Cs := []) (Y := noY) (kc := true) (ss := []) (K := fun _ _ => False) (fun _ _ h => h.elim) trivial (noY_ok _) hmT (Ends.fnM D 5) 900 _ _ ?_
    rw [sy_16 (uu := uu)]
    refine ⟨rfl, rfl, [pkA b trkE s, ⟨.sl ao cap, .vecL 3 1 encI1 ps 0⟩], _, fun W F w hr => ?_, rfl, hN s h⟩
    exact Rep.pick (π := [0, 1]) (by decide) rfl hr
  | true =>
    simp only [decide_eq_true_eq] at hlt
    have hj2 : j < ps.length := by omega
    have hnx := syNew_next uu m1 ps j hj2
    have hcn := syNew_cnt uu m1 (ps.take j)
    have hle : (ps.take j).length ≤ 1000 := by simp; omega
    have hg : ps.getD j 0 = ps[j] := by simp [List.getD, hj2]
    have hwp := hwf _ (List.getElem_mem hj2)
    have hlk := h.look ps[j] hu zPr
    have w1 : IntKind.wrap .i64 ((j : Int) + 1) = ((j + 1 : Nat) : Int) := IntWalk.i64_in _ (by omega)
    rw [Int.toNat_natCast, hg]
    generalize ps[j] = p at hg hnx hwp hlk ⊢
    have same : ∀ (tm : List SV), syN uu (syNew uu m1 (ps.take j)) p = syNew uu m1 (ps.take j) → lenN tm = 55 → liveOk tm [(1, .str uu), (3, .ptr 2 b3 0), (5, .ptr 3 b5 0), (8, .int .i64 (syNew uu m1 (ps.take j)).2), (9, .ptr 4 b9 0), (28, .vec 1 ao ps.length cap), (29, .int .i64 (ps.length : Int)), (30, .int .i64 ((j + 1 : Nat) : Int))] → GR none [markOf D] Try.prog (endR Try.prog Try.f53 W F (up N)) W F (.loop (BackR [markOf D] W F 55 (fun x : Nat × Trk => [(1, .str uu), (3, .ptr 2 b3 0), (5, .ptr 3 b5 0), (8, .int .i64 (syNew uu m1 (ps.take x.1)).2), (9, .ptr 4 b9 0), (28, .vec 1 ao ps.length cap), (29, .int .i64 (ps.length : Int)), (30, .int .i64 (x.1 : Int))]) (fun x : Nat × Trk => [pkA b trkE x.2, ⟨.sl ao cap, .vecL 3 1 encI1 ps 0⟩, ⟨.blk b3, .cells [.ptr 0 b 0] 55⟩, ⟨.blk b5, .cells [.vec 1 ao ps.length cap] 32⟩, ⟨.blk b9, .cells [.int .i64 g] 3⟩, dent D true, lp l rc .exhausted none]) (fun x : Nat × Trk => x.1 ≤ ps.length ∧ TM x.2 (syNew uu m1 (ps.take x.1)).1) (fun x : Nat × Trk => ps.length - x.1) (ps.length - j)) :: .blk 2 :: frm [] (bodyOf Try.f53) [1, 1, 1, 1, 1] []) ⟨tm, [⟨.blk b, .cells [.map 1 s.bo, .map 2 s.bp] 140⟩, ⟨.blk s.bo, .mapL (some .i64) encO s.of⟩, ⟨.blk s.bp, .mapL none encT s.ps⟩, pk 0 (s.ps.map setE), ⟨.sl ao cap, .vecL 3 1 encI1 ps 0⟩, ⟨.blk b3, .cells [.ptr 0 b 0] 55⟩, ⟨.blk b5, .cells [.vec 4 ao ps.length cap] 32⟩, ⟨.blk b9, .cells [.int .i64 g] 3⟩, dent D true, lp l rc .exhausted none]⟩ := fun tm hsm g1 g2 => by
      rw [hsm] at hnx
      refine GR_back (j + 1, s) ⟨by dsimp only; omega, ?_⟩ (by dsimp only; omega) g1 (by dsimp only; rw [hnx]; exact g2) (fun w hr => hpack w hr)
      dsimp only
      rw [hnx]; exact h
    have put : ∀ (tm : List SV), syN uu (syNew uu m1 (ps.take j)) p = (insP (rmP (syNew uu m1 (ps.take j)).1 p) (p, uu), (syNew uu m1 (ps.take j)).2 + 1) → 2 ≤ p → lenN tm = 55 → liveOk tm [(1, .str uu), (3, .ptr 2 b3 0), (5, .ptr 3 b5 0), (8, .int .i64 (syNew uu m1 (ps.take j)).2), (9, .ptr 4 b9 0), (12, .int .i64 p), (28, .vec 1 ao ps.length cap), (29, .int .i64 (ps.length : Int)), (30, .int .i64 (j : Int))] → GR none [markOf D] Try.prog (endR Try.prog Try.f53 W F (up N)) W F (frmR [BackR [markOf D] W F 55 (fun x : Nat × Trk => [(1, .str uu), (3, .ptr 2 b3 0), (5, .ptr 3 b5 0), (8, .int .i64 (syNew uu m1 (ps.take x.1)).2), (9, .ptr 4 b9 0), (28, .vec 1 ao ps.length cap), (29, .int .i64 (ps.length : Int)), (30, .int .i64 (x.1 : Int))]) (fun x : Nat × Trk => [pkA b trkE x.2, ⟨.sl ao cap, .vecL 3 1 encI1 ps 0⟩, ⟨.blk b3, .cells [.ptr 0 b 0] 55⟩, ⟨.blk b5, .cells [.vec 1 ao ps.length cap] 32⟩, ⟨.blk b9, .cells [.int .i64 g] 3⟩, dent D true, lp l rc .exhausted none]) (fun x : Nat × Trk => x.1 ≤ ps.length ∧ TM x.2 (syNew uu m1 (ps.take x.1)).1) (fun x : Nat × Trk => ps.length - x.1) (ps.length - j)] (bodyOf Try.f53) 13) ⟨tm, [⟨.blk b, .cells [.map 1 s.bo, .map 2 s.bp] 140⟩, ⟨.blk s.bo, .mapL (some .i64) encO s.of⟩, ⟨.blk s.bp, .mapL none encT s.ps⟩, pk 0 (s.ps.map setE), ⟨.sl ao cap, .vecL 3 1 encI1 ps 0⟩, ⟨.blk b3, .cells [.ptr 0 b 0] 55⟩, ⟨.blk b5, .cells [.vec 4 ao ps.length cap] 32⟩, ⟨.blk b9, .cells [.int .i64 g] 3⟩, dent D true, lp l rc .exhausted none]⟩ := fun tm hpt h2p g1 g2 => by
      refine GR_live 55 [(1, .str uu), (3, .ptr 2 b3 0), (5, .ptr 3 b5 0), (8, .int .i64 (syNew uu m1 (ps.take j)).2), (9, .ptr 4 b9 0), (12, .int .i64 p), (28, .vec 1 ao ps.length cap), (29, .int .i64 (ps.length : Int)), (30, .int .i64 (j : Int))] [pkA b trkE s, ⟨.sl ao cap, .vecL 3 1 encI1 ps 0⟩, ⟨.blk b3, .cells [.ptr 0 b 0] 55⟩, ⟨.blk b5, .cells [.vec 1 ao ps.length cap] 32⟩, ⟨.blk b9, .cells [.int .i64 g] 3⟩, dent D true, lp l rc .exhausted none] g1 g2 hpack fun u => ?_
      refine runR_sound (Cs := syT2) (Y := noY) (kc := true) (ss := []) (fun _ _ h => h) syT2_ok (noY_ok _) hmT (Ends.fnM D 5) 900 _ _ ?_
      rw [sy_13]
      refine ⟨rfl, rfl, rfl, rfl, HEq.rfl, h.tok p, fun nb => ?_⟩
      rw [hpt] at hnx
      have w2 : IntKind.wrap .i64 ((syNew uu m1 (ps.take j)).2 + 1) = (syNew uu m1 (ps.take (j + 1))).2 := by rw [hnx, IntWalk.i64_in _ (by omega)]
      refine GR_back (j + 1, tPut (tGone s p).1 uu p nb) ⟨by dsimp only; omega, ?_⟩ (by dsimp only; omega) rfl ⟨rfl, rfl, rfl, congrArg (Value.int .i64) w2, rfl, rfl, rfl, congrArg (Value.int .i64) w1, trivial⟩ (fun w hr => hr)
      dsimp only
      rw [hnx]
      exact h.puts hwp h2p hu hus nb
    refine ⟨⟨rfl, rfl, rfl, by omega, by omega⟩, ⟨rfl, rfl, rfl, hj2⟩, ?_⟩
    have dn : ∀ q, sEq ((mget s.of (.i .i64 p)).getD ⟨#[]⟩) uu = q → (decide (atP (syNew uu m1 (ps.take j)).1 p ≥ 0) && sEq ((syNew uu m1 (ps.take j)).1.getD (atP (syNew uu m1 (ps.take j)).1 p).toNat zPr).2 uu) = q := fun q hq => hlk.symm.trans hq
    have c1 : sEq ((mget s.of (.i .i64 p)).getD ⟨#[]⟩) uu = true → syN uu (syNew uu m1 (ps.take j)) p = syNew uu m1 (ps.take j) := fun hq => by simp only [syN, dn _ hq, Bool.or_true]
    have c2 : decide (p ≥ 2) = false → syN uu (syNew uu m1 (ps.take j)) p = syNew uu m1 (ps.take j) := fun hq => by
      have : decide (p < 2) = true := by simp only [decide_eq_false_iff_not] at hq; exact decide_eq_true (by omega)
      simp only [syN, this, Bool.true_or]
    have c3 : sEq ((mget s.of (.i .i64 p)).getD ⟨#[]⟩) uu = false → decide (p ≥ 2) = true → syN uu (syNew uu m1 (ps.take j)) p = (insP (rmP (syNew uu m1 (ps.take j)).1 p) (p, uu), (syNew uu m1 (ps.take j)).2 + 1) := fun hq hq2 => by
      have : decide (p < 2) = false := by simp only [decide_eq_true_eq] at hq2; exact decide_eq_false (by omega)
      simp only [syN, this, dn _ hq, Bool.false_or]
    refine ⟨rfl, rfl, ⟨rfl, rfl, rfl⟩, ?_⟩
    cases hof : mget s.of (.i .i64 p) with
    | none =>
      simp only [hof, Option.getD_none] at c1 c3
      dsimp only
      cases hs : sEq (⟨#[]⟩ : ByteArray) uu with
      | true =>
        simp only [Bool.not_true]
        refine same _ (c1 hs) ?_ ?_; exact rfl; exact ⟨rfl, rfl, rfl, rfl, rfl, rfl, rfl, congrArg (Value.int .i64) w1, trivial⟩
      | false =>
        simp only [Bool.not_false]
        cases h2p : decide (p ≥ 2) with
        | true => refine put _ (c3 hs h2p) (by simpa using h2p) ?_ ?_; exact rfl; exact ⟨rfl, rfl, rfl, rfl, rfl, rfl, rfl, rfl, rfl, trivial⟩
        | false => refine same _ (c2 h2p) ?_ ?_; exact rfl; exact ⟨rfl, rfl, rfl, rfl, rfl, rfl, rfl, congrArg (Value.int .i64) w1, trivial⟩
    | some v =>
      simp only [hof, Option.getD_some] at c1 c3
      dsimp only
      cases hs : sEq v uu with
      | true =>
        simp only [Bool.not_true]
        refine same _ (c1 hs) ?_ ?_; exact rfl; exact ⟨rfl, rfl, rfl, rfl, rfl, rfl, rfl, congrArg (Value.int .i64) w1, trivial⟩
      | false =>
        simp only [Bool.not_false]
        cases h2p : decide (p ≥ 2) with
        | true => refine put _ (c3 hs h2p) (by simpa using h2p) ?_ ?_; exact rfl; exact ⟨rfl, rfl, rfl, rfl, rfl, rfl, rfl, rfl, rfl, trivial⟩
        | false => refine same _ (c2 h2p) ?_ ?_; exact rfl; exact ⟨rfl, rfl, rfl, rfl, rfl, rfl, rfl, congrArg (Value.int .i64) w1, trivial⟩
end
theorem sy_spec {s : Trk} {b : Nat} {u : ByteArray} {ps : List Int} {ao : Option Addr} {cap : Nat} {m : PRow} (h : TM s m) (hm : m.length ≤ 100000) (hp : ps.length ≤ 1000) (hwf : ∀ p ∈ ps, (Lit.int .i64 p).wf = true) (hus : u.size ≤ 100) : Spec Try.prog 53 [pkA b trkE s, ⟨.sl ao cap, .vecL 3 1 encI1 ps 0⟩] [.ptr 0 b 0, .str u, .vec 1 ao ps.length cap] fun h' r => ∃ s', TM s' (syncF m u ps).1 ∧ h' = [pkA b trkE s', ⟨.sl ao cap, .vecL 3 1 encI1 ps 0⟩] ∧ r = .tuple [.int .i64 (syncF m u ps).2.1, .int .i64 (syncF m u ps).2.2] := by
  refine Spec.up ?_
  refine Spec.of_GR 55 Try.func53 (c := bodyOf Try.f53) (by kernel_rfl) (by kernel_rfl) (Nat.le_of_ble_eq_true rfl) fun W F => ?_
  refine runR_sound (kc := true) (ss := []) (Cs := [(34, pidsC)]) (fun _ _ h => h) ⟨tPids_ok, trivial⟩ (noY_ok _) hmT Ends.fn 300 _ _ ?_
  rw [sy_start]
  obtain ⟨hpo, hpl⟩ := h.pids (by omega) u
  refine ⟨rfl, fun b3 => ⟨rfl, fun b5 => ?_⟩⟩
  unfold syncF
  cases hu : sEq u ⟨#[]⟩ with
  | true =>
    refine ⟨[pkA b trkE s, ⟨.sl ao cap, .vecL 3 1 encI1 ps 0⟩], .tuple [.int .i64 0, .int .i64 0], fun W F w hr => ?_, rfl, s, h, rfl, rfl⟩
    exact Rep.pick (π := [0, 1]) (by decide) rfl hr
  | false =>
    have hu' := (sEqF _ _).1 hu
    intro b9
    refine ⟨⟨rfl, rfl, rfl, Nat.le_refl _⟩, rfl, rfl, rfl, rfl, HEq.rfl, hpo, fun aw cw bx => ?_⟩
    rw [hpl]
    have hwl : (pidsP m u).length ≤ 1000000 := by have := pidsP_leT m u; omega
    refine GR_rangeAt [] (bodyOf Try.f53) [1, 1, 1, 0, 1, 0] (f := 99) (first := []) (captured := [.ptr 6 bx 0]) (by kernel_rfl) (by kernel_rfl) (by kernel_rfl) fun D l rc hrt hrp hra hrb =>
      ⟨_, sy_iter (uu := u) (D := D) (m := m) (b9 := b9) h hp hwl hrt hrp hra hrb fun v => ⟨rfl, rfl, rfl, rfl, rfl, rfl, rfl, trivial⟩, ?_⟩
    rintro h' v ⟨s', hs', rfl⟩
    refine ⟨6, .ready, none, by decide, rfl, ?_⟩
    dsimp only
    refine GR_live 55 [(1, .str u), (3, .ptr 2 b3 0), (5, .ptr 3 b5 0), (8, .int .i64 0), (9, .ptr 4 b9 0)] [pkA b trkE s', ⟨.sl ao cap, .vecL 3 1 encI1 ps 0⟩, ⟨.blk b3, .cells [.ptr 0 b 0] 55⟩, ⟨.blk b5, .cells [.vec 1 ao ps.length cap] 32⟩, ⟨.blk b9, .cells [.int .i64 (syGone ps m (pidsP m u)).2] 3⟩, dent D true, lp l rc .exhausted none] rfl ⟨rfl, rfl, rfl, rfl, rfl, trivial⟩ (fun w hr => Rep.dropR (t := [_, _]) hr) fun u => ?_
    refine runR_sound (Cs := []) (Y := noY) (kc := true) (ss := []) (fun _ _ h => h) trivial (noY_ok _) hmT (Ends.fnM D 5) 900 _ _ ?_
    rw [sy_mid]
    refine ⟨rfl, ?_⟩
    exact sy_2 hs' hp hwf hu' hus (fun s2 h2 => ⟨s2, h2, rfl, rfl⟩) rfl ⟨rfl, rfl, rfl, rfl, rfl, rfl, rfl, rfl, trivial⟩
theorem sync_ok : CtrOk Try.prog 53 syncC := by
  intro args hs N h
  unfold syncC at h
  split at h
  case h_2 => exact h.elim
  rename_i l b u lp ao n cap
  split at h
  case h_2 => exact h.elim
  rename_i b' σ' p s hl
  obtain ⟨rfl, rfl, hp, ps, m, hl2, ⟨hm, hne⟩, ⟨rfl, hpl, hml, hus, hwf⟩, h⟩ := h
  obtain rfl := eq_of_heq hp
  have hne' : l ≠ lp := fun e => by
    subst e
    simp at hne
  refine Spec.at (hp := [pkA b' trkE s, ⟨.sl ao cap, .vecL 3 1 encI1 ps 0⟩]) (args' := [.ptr 0 b' 0, .str u, .vec 1 ao ps.length cap]) (Post' := fun h' r => ∃ s', TM s' (syncF m u ps).1 ∧ h' = [pkA b' trkE s', ⟨.sl ao cap, .vecL 3 1 encI1 ps 0⟩] ∧ r = .tuple [.int .i64 (syncF m u ps).2.1, .int .i64 (syncF m u ps).2.2]) [l, lp] (by simpa [distinct] using hne') (by
    have hl' : nth hs l = some (pkA b' trkE s) := hl
    simp [pickE, hl', hl2]) (sy_spec hm hml hpl hwf hus) rfl ?_
  rintro h' r ⟨s', hs', rfl, rfl⟩
  refine ⟨Nat.le_of_ble_eq_true rfl, .tuple [.int .i64 (syncF m u ps).2.1, .int .i64 (syncF m u ps).2.2], rfl, ?_⟩
  have e1 : nth (setN hs l (pkA b' trkE s')) lp = some ⟨.sl ao cap, .vecL 3 1 encI1 ps 0⟩ := by
    rw [nth_eq, setN_eq, List.getElem?_set, if_neg hne', ← nth_eq]; exact hl2
  have e2 := setN_selfT e1
  simpa [putBack, appE_eq, e2] using h s' hs'
end Go.Proofs.Ytihajdkipkfiiaa

/- YtihajdkipkfiiaaUn1Run -/
namespace Go.Proofs.Ytihajdkipkfiiaa
set_option linter.unusedVariables false
open Go Go.RowKit
set_option maxHeartbeats 0
set_option maxRecDepth 100000
set_option maxRecDepth 100000

theorem un_run (K : List Frm → Sy → Prop) (N : List Ent → SV → Prop) (s : Trk) (b : Nat) : (run Try.prog unT true [] K (retP Try.prog Try.f57.results.toList N) 600 [.code (bodyOf Try.f57)] ⟨padTo 10 [.ptr 0 b 0], [⟨.blk b, .cells [.map 1 s.bo, .map 2 s.bp] 140⟩, ⟨.blk s.bo, .mapL (some .i64) encO s.of⟩, ⟨.blk s.bp, .mapL none encT s.ps⟩, pk 0 (s.ps.map setE)]⟩) = (
b = b ∧
 true = true ∧
  true = true ∧
   ∀ (b_1 : Nat),
    true = true ∧
     107 = 107 ∧
      (b_1 = b_1 ∧ s.2 = s.2 ∧ @none IntKind = @none IntKind ∧ wfS s.4) ∧
       ∀ (ao : Option Addr) (cap : Nat),
        true = true ∧
         true = true ∧
          ∀ (b_2 : Nat),
           N
            [Ent.mk (Loc.blk b) (SObj.cells [SV.map 1 s.1, SV.map 2 s.2] (140 : TypeId)), Ent.mk (Loc.blk s.1) (SObj.mapL (some IntKind.i64) encO s.3),
             Ent.mk (Loc.blk s.2) (SObj.mapL (@none IntKind) encT s.4), pk 0 (List.map setE s.4), Ent.mk (Loc.blk b_1) (SObj.cells [SV.map 2 s.2] 138),
             Ent.mk (Loc.sl ao cap) (SObj.vecL 9 1 encS1 (sortS s.4) ByteArray.empty),
             Ent.mk (Loc.blk b_2) (SObj.cells [SV.vec 5 ao (List.length (sortS s.4)) cap] 93)]
            (SV.func (Fn.func 104) [] [SV.ptr 6 b_2 0])) := by kernel_rfl


theorem tp1_run (K : List Frm → Sy → Prop) (N : List Ent → SV → Prop) (got : List Int) (c : Nat) (ag : Option Addr) (cg : Nat) (x : Int) : (run Try.prog [] true [] K (retP Try.prog Try.f55.results.toList N) 600 [.code (bodyOf Try.f55)] ⟨padTo 11 [.int .i64 x, .ptr 0 c 0], [⟨.blk c, .cells [.vec 1 ag got.length cg] 32⟩, ⟨.sl ag cg, .vecL 3 1 encI1 got 0⟩]⟩) = (
c = c ∧
 (true = true ∧ 1 = 1 ∧ 0 < 1 ∧ 1 ≤ 16777216) ∧
  ∀ (b : Nat),
   (ag = ag ∧
    cg = cg ∧
     List.length got = List.length got ∧
      some (Addr.mk b 0 (@none Nat)) = some (Addr.mk b 0 (@none Nat)) ∧
       (3 : TypeId) = 3 ∧
        1 = 1 ∧
         1 = 1 ∧
          0 < 1 ∧ true = true ∧ (List.length got + 1) * 8 ≤ 140737488355328 ∧ List.length got + 1 ≤ 9223372036854775807) ∧
    ∃ (es : List Int),
     List.length es = 1 ∧
      List.flatMap encI1 es = [SV.int IntKind.i64 x] ∧
       ∀ (ao2 : Option Addr) (cap2 : Nat),
        List.length got + 1 ≤ cap2 →
         (c = c ∧ true = true ∧ 1 = 1 ∧ 1 ≤ 1) ∧
          c = c ∧
           N
            [Ent.mk (Loc.blk c) (SObj.cells [SV.vec 1 ao2 (List.length got + 1) cap2] (32 : TypeId)),
             Ent.mk (Loc.sl ao2 cap2) (SObj.vecL (3 : TypeId) 1 encI1 (got ++ es) (0 : Int)), Ent.mk (Loc.blk b) (SObj.cells [SV.int IntKind.i64 x] 3)]
            (SV.bool (decide ((↑(List.length got + 1) : Int) < (500 : Int))))) := by kernel_rfl


theorem tp2_run (K : List Frm → Sy → Prop) (N : List Ent → SV → Prop) (got : List ByteArray) (c : Nat) (ag : Option Addr) (cg : Nat) (x : ByteArray) : (run Try.prog [] true [] K (retP Try.prog Try.f58.results.toList N) 600 [.code (bodyOf Try.f58)] ⟨padTo 11 [.str x, .ptr 0 c 0], [⟨.blk c, .cells [.vec 1 ag got.length cg] 93⟩, ⟨.sl ag cg, .vecL 9 1 encS got ByteArray.empty⟩]⟩) = (
c = c ∧
 (true = true ∧ 1 = 1 ∧ 0 < 1 ∧ 1 ≤ 16777216) ∧
  ∀ (b : Nat),
   (ag = ag ∧
    cg = cg ∧
     List.length got = List.length got ∧
      some (Addr.mk b 0 (@none Nat)) = some (Addr.mk b 0 (@none Nat)) ∧
       (9 : TypeId) = 9 ∧
        1 = 1 ∧
         1 = 1 ∧
          0 < 1 ∧ true = true ∧ (List.length got + 1) * 16 ≤ 140737488355328 ∧ List.length got + 1 ≤ 9223372036854775807) ∧
    ∃ (es : List ByteArray),
     List.length es = 1 ∧
      List.flatMap encS es = [SV.str x] ∧
       ∀ (ao2 : Option Addr) (cap2 : Nat),
        List.length got + 1 ≤ cap2 →
         (c = c ∧ true = true ∧ 1 = 1 ∧ 1 ≤ 1) ∧
          c = c ∧
           N
            [Ent.mk (Loc.blk c) (SObj.cells [SV.vec 1 ao2 (List.length got + 1) cap2] (93 : TypeId)),
             Ent.mk (Loc.sl ao2 cap2) (SObj.vecL (9 : TypeId) 1 encS (got ++ es) ByteArray.empty), Ent.mk (Loc.blk b) (SObj.cells [SV.str x] 9)]
            (SV.bool (decide ((↑(List.length got + 1) : Int) < (500 : Int))))) := by kernel_rfl
end Go.Proofs.Ytihajdkipkfiiaa

/- YtihajdkipkfiiaaValSC -/
/- slices.Values: going through a row. -/
namespace Go.Proofs.Ytihajdkipkfiiaa
open Go Go.RowKit
set_option linter.unusedVariables false
set_option linter.unusedSimpArgs false
set_option linter.unnecessarySimpa false
set_option maxHeartbeats 0

/-- The function that is called for each element: R i: the entries ahead of element i; Stop: where it says 'false'. -/
def valSY (fv : Value) (xs : List ByteArray) (R : Nat → List Ent) (Stop : List Ent → Prop) : YCtr := fun v args hs N => v = fv ∧ match hs with
  | e0 :: e1 :: e2 :: rest => ∃ i x, xs[i]? = some x ∧ args = [.str x] ∧ e2 = pk 0 (R i) ∧ N (e0 :: e1 :: pk 0 (R (i + 1)) :: rest) (.bool true) ∧ ∀ R', Stop R' → N (e0 :: e1 :: pk 0 R' :: rest) (.bool false)
  | _ => False
end Go.Proofs.Ytihajdkipkfiiaa

/- YtihajdkipkfiiaaValS1Run -/
namespace Go.Proofs.Ytihajdkipkfiiaa
set_option linter.unusedVariables false
open Go Go.RowKit
set_option maxHeartbeats 0
set_option maxRecDepth 100000
set_option maxRecDepth 100000

theorem vS_start (K : List Frm → Sy → Prop) (X : Code → Sy → Prop) (E : Sy → Prop) (xs : List ByteArray) (bx : Nat) (ao : Option Addr) (cap : Nat) (fv : Value) (R : Nat → List Ent) (Stop : List Ent → Prop) : (runR Try.prog [] (valSY fv xs R Stop) true [] K X E 300 [.code (bodyOf Try.f104)] ⟨padTo 16 [.raw fv, .ptr 0 bx 0], [⟨.blk bx, .cells [.vec 1 ao xs.length cap] 93⟩, ⟨.sl ao cap, .vecL 9 1 encS xs ByteArray.empty⟩, pk 0 (R 0)]⟩) = (
bx = bx ∧
 K (frm [] (bodyOf Try.f104) [1, 0] [])
  (Sy.mk (SV.raw fv :: (SV.ptr 0 bx 0 :: (rawE (SV.vec 1 ao (List.length xs) cap :: (SV.int IntKind.i64 (↑(List.length xs) : Int) :: (SV.int IntKind.i64 (0 : Int) :: (rawE [] 8)))) 3)))
   [Ent.mk (Loc.blk bx) (SObj.cells [SV.vec 1 ao (List.length xs) cap] (93 : TypeId)), Ent.mk (Loc.sl ao cap) (SObj.vecL (9 : TypeId) 1 encS xs ByteArray.empty),
    pk 0 (R 0)])) := by kernel_rfl


theorem vS_body (K : List Frm → Sy → Prop) (X : Code → Sy → Prop) (E : Sy → Prop) (J : Act → World → Prop) (xs : List ByteArray) (bx : Nat) (ao : Option Addr) (cap : Nat) (fv : Value) (R : Nat → List Ent) (Stop : List Ent → Prop) (i : Nat) (u : Nat → Value) : (runR Try.prog [] (valSY fv xs R Stop) true [] K X E 900 (frm [J] (bodyOf Try.f104) [1, 0, 0] []) ⟨mkT u 16 0 [(0, .raw fv), (1, .ptr 0 bx 0), (5, .vec 1 ao xs.length cap), (6, .int .i64 (xs.length : Int)), (7, .int .i64 (i : Int))], [⟨.blk bx, .cells [.vec 1 ao xs.length cap] 93⟩, ⟨.sl ao cap, .vecL 9 1 encS xs ByteArray.empty⟩, pk 0 (R i)]⟩) = (
match decide ((↑i : Int) < (↑(List.length xs) : Int)) with
| true =>
 (ao = ao ∧ cap = cap ∧ List.length xs = List.length xs ∧ (0 : Int) ≤ (↑i : Int) ∧ (↑i : Int) < (↑(List.length xs) : Int)) ∧
  (Addr.blkD ao = Addr.blkD ao ∧ Addr.offD ao = Addr.offD ao ∧ 1 = 1 ∧ Int.toNat (↑i : Int) < List.length xs) ∧
   fv = fv ∧
    ∃ (i_1 : Nat),
     ∃ (x : ByteArray),
      xs[i_1]? = some x ∧
       [SV.str (List.getD xs (Int.toNat (↑i : Int)) ByteArray.empty)] = [SV.str x] ∧
        pk 0 (R i) = pk 0 (R i_1) ∧
         K [Frm.loop J, Frm.blk 0]
          (Sy.mk (SV.raw fv :: (SV.ptr 0 bx 0 :: (SV.raw (u 2) :: (SV.raw (u 3) :: (SV.str (List.getD xs (Int.toNat (↑i : Int)) ByteArray.empty) :: (SV.vec 1 ao (List.length xs) cap :: (SV.int IntKind.i64 (↑(List.length xs) : Int) :: (SV.int IntKind.i64 (IntKind.wrap IntKind.i64 ((↑i : Int) + (1 : Int))) :: (SV.bool true :: (SV.eptr 1 (Addr.blkD ao) (Addr.offD ao) 1 (Int.toNat (↑i : Int)) 0 :: (SV.str (List.getD xs (Int.toNat (↑i : Int)) ByteArray.empty) :: (SV.raw fv :: (SV.str (List.getD xs (Int.toNat (↑i : Int)) ByteArray.empty) :: (SV.bool true :: (SV.bool false :: (SV.int IntKind.i64 (IntKind.wrap IntKind.i64 ((↑i : Int) + (1 : Int))) :: []))))))))))))))))
           [Ent.mk (Loc.blk bx) (SObj.cells [SV.vec 1 ao (List.length xs) cap] (93 : TypeId)), Ent.mk (Loc.sl ao cap) (SObj.vecL (9 : TypeId) 1 encS xs ByteArray.empty),
            pk 0 (R (i_1 + 1))]) ∧
          ∀ (R' : List Ent),
           Stop R' →
            X Code.ret
             (Sy.mk (SV.raw fv :: (SV.ptr 0 bx 0 :: (SV.raw (u 2) :: (SV.raw (u 3) :: (SV.str (List.getD xs (Int.toNat (↑i : Int)) ByteArray.empty) :: (SV.vec 1 ao (List.length xs) cap :: (SV.int IntKind.i64 (↑(List.length xs) : Int) :: (SV.int IntKind.i64 (↑i : Int) :: (SV.bool true :: (SV.eptr 1 (Addr.blkD ao) (Addr.offD ao) 1 (Int.toNat (↑i : Int)) 0 :: (SV.str (List.getD xs (Int.toNat (↑i : Int)) ByteArray.empty) :: (SV.raw fv :: (SV.str (List.getD xs (Int.toNat (↑i : Int)) ByteArray.empty) :: (SV.bool false :: (SV.bool true :: (SV.raw (u 15) :: []))))))))))))))))
              [Ent.mk (Loc.blk bx) (SObj.cells [SV.vec 1 ao (List.length xs) cap] (93 : TypeId)),
               Ent.mk (Loc.sl ao cap) (SObj.vecL (9 : TypeId) 1 encS xs ByteArray.empty), pk 0 R'])
| false =>
 E
  (Sy.mk (SV.raw fv :: (SV.ptr 0 bx 0 :: (rawR u 2 (SV.vec 1 ao (List.length xs) cap :: (SV.int IntKind.i64 (↑(List.length xs) : Int) :: (SV.int IntKind.i64 (↑i : Int) :: (SV.bool false :: (rawR u 9 [] 7))))) 3)))
   [Ent.mk (Loc.blk bx) (SObj.cells [SV.vec 1 ao (List.length xs) cap] (93 : TypeId)), Ent.mk (Loc.sl ao cap) (SObj.vecL (9 : TypeId) 1 encS xs ByteArray.empty),
    pk 0 (R i)])) := by kernel_rfl
end Go.Proofs.Ytihajdkipkfiiaa

/- YtihajdkipkfiiaaValS -/
/- slices.Values: going through a row. -/
namespace Go.Proofs.Ytihajdkipkfiiaa
open Go Go.RowKit
set_option linter.unusedVariables false
set_option linter.unusedSimpArgs false
set_option linter.unnecessarySimpa false
set_option maxHeartbeats 0
theorem hmValS : Try.prog.follows .mixedOrders = true := by kernel_rfl

/-- What the function says of one element. -/
def OneS (fv : Value) (xs : List ByteArray) (R : Nat → List Ent) (Stop : List Ent → Prop) : Prop := ∀ i x, xs[i]? = some x → VSpec Try.prog fv [pk 0 (R i)] [.str x] fun h r => (h = [pk 0 (R (i + 1))] ∧ r = .bool true) ∨ ∃ R', Stop R' ∧ h = [pk 0 R'] ∧ r = .bool false
theorem valSY_ok {fv : Value} {xs : List ByteArray} {R : Nat → List Ent} {Stop : List Ent → Prop} (hV : OneS fv xs R Stop) : YOk Try.prog (valSY fv xs R Stop) := by
  rintro v args hs N ⟨rfl, h⟩
  split at h
  case h_2 => exact h.elim
  rename_i e0 e1 e2 rest
  obtain ⟨i, x, hx, rfl, rfl, hN1, hN2⟩ := h
  refine VSpec.at [2] rfl rfl (hV i x hx) fun h' r hp => ?_
  rcases hp with ⟨rfl, rfl⟩ | ⟨R', hs, rfl, rfl⟩
  · exact ⟨Nat.le_refl _, by simpa [putBack, setN, appE_eq] using hN1⟩
  · exact ⟨Nat.le_refl _, by simpa [putBack, setN, appE_eq] using hN2 R' hs⟩
/-- slices.Values: for each element, as1 far as1 the function wants them. -/
theorem valS_iter {fv : Value} {xs : List ByteArray} {bx : Nat} {ao : Option Addr} {cap : Nat} {R : Nat → List Ent} {Stop : List Ent → Prop} (hx : xs.length ≤ 1000000) (hV : OneS fv xs R Stop) :
    Spec Try.prog 104 [⟨.blk bx, .cells [.vec 1 ao xs.length cap] 93⟩, ⟨.sl ao cap, .vecL 9 1 encS xs ByteArray.empty⟩, pk 0 (R 0)] [.raw fv, .ptr 0 bx 0] fun h' r => r = .tuple [] ∧ (h' = [⟨.blk bx, .cells [.vec 1 ao xs.length cap] 93⟩, ⟨.sl ao cap, .vecL 9 1 encS xs ByteArray.empty⟩, pk 0 (R xs.length)] ∨ ∃ R', Stop R' ∧ h' = [⟨.blk bx, .cells [.vec 1 ao xs.length cap] 93⟩, ⟨.sl ao cap, .vecL 9 1 encS xs ByteArray.empty⟩, pk 0 R']) := by
  refine Spec.up ?_
  refine Spec.of_GR 16 Try.func104 (c := bodyOf Try.f104) (by kernel_rfl) (by kernel_rfl) (Nat.le_of_ble_eq_true rfl) fun W F => ?_
  refine runR_sound (kc := true) (ss := []) (Cs := []) (fun _ _ h => h) trivial (valSY_ok hV) hmValS Ends.fn 300 _ _ ?_
  rw [vS_start]
  try refine ⟨rfl, ?_⟩
  refine GR_loopAt (ι := Nat) [] (bodyOf Try.f104) [1, 0] 16 (fun i => [(0, .raw fv), (1, .ptr 0 bx 0), (5, .vec 1 ao xs.length cap), (6, .int .i64 (xs.length : Int)), (7, .int .i64 (i : Int))]) (fun i => [⟨.blk bx, .cells [.vec 1 ao xs.length cap] 93⟩, ⟨.sl ao cap, .vecL 9 1 encS xs ByteArray.empty⟩, pk 0 (R i)]) (fun i => i ≤ xs.length) (fun i => xs.length - i) 0 (by kernel_rfl) (fun J => by kernel_rfl) (Nat.zero_le _) rfl ⟨rfl, rfl, rfl, rfl, rfl, trivial⟩ (fun w hw => hw) fun i hi u => ?_
  simp only [List.nil_append, List.cons_append]
  refine runR_sound (kc := true) (ss := []) (Cs := []) (fun _ _ h => h) trivial (valSY_ok hV) hmValS Ends.fn 900 _ _ ?_
  rw [vS_body]
  cases hlt : decide ((i : Int) < (xs.length : Int)) with
  | false =>
    simp only [decide_eq_false_iff_not] at hlt
    obtain rfl : i = xs.length := by omega
    exact ⟨_, _, fun W F w hr => hr, rfl, rfl, .inl rfl⟩
  | true =>
    simp only [decide_eq_true_eq] at hlt
    have hi' : i < xs.length := by omega
    have t2 : IntKind.wrap .i64 ((i : Int) + 1) = ((i + 1 : Nat) : Int) := IntWalk.i64_in _ (by omega)
    have hk : xs.getD i ByteArray.empty = xs[i] := by simp [List.getD, hi']
    rw [Int.toNat_natCast, hk]
    refine ⟨⟨rfl, rfl, rfl, by omega, by omega⟩, ⟨rfl, rfl, rfl, hi'⟩, ?_⟩
    repeat' first
      | exact rfl
      | (refine ⟨i, xs[i], List.getElem?_eq_getElem hi', rfl, rfl, ?_, fun R' hst => ?_⟩)
      | (refine GR_back (i + 1) (by omega) (by omega) rfl ⟨rfl, rfl, rfl, rfl, congrArg (Value.int .i64) t2, trivial⟩ (fun w hr => hr))
      | exact ⟨_, _, fun W F w hr => hr, rfl, rfl, .inr ⟨R', hst, rfl⟩⟩
      | apply And.intro
      | fail
end Go.Proofs.Ytihajdkipkfiiaa

/- YtihajdkipkfiiaaUn -/
/- Units; what the law gathers. -/
namespace Go.Proofs.Ytihajdkipkfiiaa
open Go Go.RowKit
set_option linter.unusedVariables false
set_option linter.unusedSimpArgs false
set_option linter.unnecessarySimpa false
set_option maxHeartbeats 0
theorem tp5_V {xs : List Int} {c : Nat} (hx : xs.length ≤ 400) : OneI (.func (.func 55) #[] (denL [.ptr 0 c 0]).toArray) xs (asR xs c []) (fun _ => False) := by
  intro i x hxi
  obtain ⟨hi, he⟩ := List.getElem?_eq_some_iff.1 hxi
  refine VSpec.fn (by kernel_rfl) (Spec.ex (ι := asI i) (hs' := fun ac => [⟨.blk c, .cells [.vec 1 ac.1 (xs.take i).length ac.2] 32⟩, ⟨.sl ac.1 ac.2, .vecL 3 1 encI1 (xs.take i) 0⟩]) (fun W F w hr => by
    obtain ⟨j, hj⟩ := Rep.pkex1 hr
    exact ⟨j, hj⟩) ?_)
  rintro ⟨ag, cg⟩
  have hl2 : (xs.take i).length = i := by simp; omega
  have hl3 : xs.take (i + 1) = xs.take i ++ [x] := by rw [List.take_add_one, hxi]; rfl
  refine Spec.up ?_
  show Spec Try.prog 55 [⟨.blk c, .cells [.vec 1 ag (xs.take i).length cg] 32⟩, ⟨.sl ag cg, .vecL 3 1 encI1 (xs.take i) 0⟩] [.int .i64 x, .ptr 0 c 0] _
  refine Spec.of_G 11 Try.func55 (c := bodyOf Try.f55) (by kernel_rfl) (by kernel_rfl) (Nat.le_of_ble_eq_true rfl) fun W F => ?_
  refine G_run (kc := true) (ss := []) (Cs := []) trivial hmT 600 ?_
  rw [tp1_run]
  have hlt : decide ((((xs.take i).length + 1 : Nat) : Int) < 500) = true := decide_eq_true (by omega)
  have fin : ∀ (ao2 : Option Addr) (cap2 : Nat) (e4 : Ent), up (fun h r => (h = [pk 0 (asR xs c [] (i + 1))] ∧ r = .bool true) ∨ ∃ R' : List Ent, False ∧ h = [pk 0 R'] ∧ r = .bool false) [⟨.blk c, .cells [.vec 1 ao2 ((xs.take i).length + 1) cap2] 32⟩, ⟨.sl ao2 cap2, .vecL 3 1 encI1 (xs.take i ++ [x]) 0⟩, e4] (.bool (decide ((((xs.take i).length + 1 : Nat) : Int) < 500))) := fun ao2 cap2 e4 => by
    rw [hlt]
    refine ⟨[pk 0 (asR xs c [] (i + 1))], .bool true, fun W F w hr => ?_, rfl, .inl ⟨rfl, rfl⟩⟩
    have h1 := Rep.pick (π := [0, 1]) (by decide) rfl hr
    refine Rep.expk1 (f := fun ac : asI (i + 1) => ([⟨.blk c, .cells [.vec 1 ac.1 (xs.take (i + 1)).length ac.2] 32⟩, ⟨.sl ac.1 ac.2, .vecL 3 1 encI1 (xs.take (i + 1)) 0⟩] ++ [])) (ao2, cap2) ?_
    have e : (xs.take (i + 1)).length = (xs.take i).length + 1 := by rw [hl3]; simp
    dsimp only
    rw [e, hl3]
    exact h1
  repeat' first
    | exact rfl
    | (refine ⟨[x], rfl, rfl, fun ao2 cap2 _ => ⟨⟨rfl, rfl, rfl, by omega⟩, ?_⟩⟩)
    | exact fin _ _ _
    | exact ⟨rfl, fin _ _ _⟩
    | apply And.intro
    | (refine fun b1 => ?_)
    | (show _ ≤ _; omega)
    | (show _ < _; omega)
    | fail
theorem vals5_ok : CtrOk Try.prog 99 vals5C := by
  intro args hs N h
  unfold vals5C at h
  split at h
  case h_2 => exact h.elim
  rename_i g lg c lb bx
  obtain ⟨rfl, xs, lv, ao, cap, h0, h1, h2, ⟨⟨n1, n2, n3⟩, hx⟩, h⟩ := h
  have ne : ∀ {a b : Nat}, Nat.beq a b = false → a ≠ b := fun h e => by
    subst e
    simp at h
  refine Spec.at (hp := [⟨.blk c, .cells [.raw (.slice none 0 0)] 32⟩, ⟨.blk bx, .cells [.vec lv ao xs.length cap] 32⟩, ⟨.sl ao cap, .vecL 3 1 encI1 xs 0⟩]) (args' := [.func (.func 55) [] [.ptr 0 c 0], .ptr 1 bx 0]) (Post' := fun h' r => ∃ ag cg, h' = [⟨.blk c, .cells [.vec (lenN hs) ag xs.length cg] 32⟩, ⟨.blk bx, .cells [.vec lv ao xs.length cap] 32⟩, ⟨.sl ao cap, .vecL 3 1 encI1 xs 0⟩, ⟨.sl ag cg, .vecL 3 1 encI1 xs 0⟩] ∧ r = .tuple []) [lg, lb, lv] (by simpa [distinct] using ⟨⟨ne n1, ne n2⟩, ne n3⟩) (by simp [pickE, h0, h1, h2]) ?_ rfl ?_
  · intro W F w hr
    have g1 : Rep W F [⟨.blk bx, .cells [.vec 1 ao xs.length cap] 32⟩, ⟨.sl ao cap, .vecL 3 1 encI1 xs 0⟩, pk 0 (asR xs c [] 0)] w := by
      have g2 := Rep.cellsEq (l := 1) (cs' := [.vec 1 ao xs.length cap]) rfl (by rfl) hr
      have g3 := Rep.cellsEq (l := 0) (cs' := [.vec 1 none 0 0]) rfl (by rfl) g2
      have g4 := Rep.nilvec 3 (sz := 1) (enc := encI1) 0 (fun _ => rfl) g3
      refine Rep.pkAt 0 (p := [_, _]) (t := []) ?_
      have g5 := Rep.pick (π := [0, 3, 1, 2]) (by decide) rfl g4
      have g6 : Rep W F ([exP fun ac : asI 0 => ([⟨.blk c, .cells [.vec 1 ac.1 (xs.take 0).length ac.2] 32⟩, ⟨.sl ac.1 ac.2, .vecL 3 1 encI1 (xs.take 0) 0⟩] ++ [])] ++ [_, _]) w := Rep.ex (f := fun ac : asI 0 => ([⟨.blk c, .cells [.vec 1 ac.1 (xs.take 0).length ac.2] 32⟩, ⟨.sl ac.1 ac.2, .vecL 3 1 encI1 (xs.take 0) 0⟩] ++ [])) (none, 0) g5
      exact Rep.pick (π := [1, 2, 0]) (by decide) rfl g6
    refine Calls.mono (valI_iter (ao := ao) (cap := cap) (bx := bx) (by omega) (tp5_V hx) W F w g1) ?_
    rintro e w' ⟨h', r, ⟨rfl, hc⟩, rfl, hr'⟩
    rcases hc with rfl | ⟨R', hs, rfl⟩
    · have h7 := Rep.unpkAt (p := [_, _]) (t := []) hr'
      have h8 := Rep.pick (π := [2, 0, 1]) (by decide) rfl h7
      obtain ⟨⟨ag, cg⟩, h9⟩ := Rep.unex (t := [_, _]) h8
      refine ⟨_, .tuple [], ⟨ag, cg, rfl, rfl⟩, rfl, ?_⟩
      have h10 := Rep.pick (π := [0, 2, 3, 1]) (by decide) rfl h9
      dsimp only at h10
      rw [List.take_length] at h10
      have h11 := Rep.cellsEq (l := 0) (cs' := [.vec (lenN hs) ag xs.length cg]) rfl (by rfl) h10
      exact Rep.cellsEq (l := 1) (cs' := [.vec lv ao xs.length cap]) rfl (by rfl) h11
    · exact hs.elim
  · rintro h' r ⟨ag, cg, rfl, rfl⟩
    refine ⟨by simp [lenN], .tuple [], rfl, ?_⟩
    have e : setN (setN (setN hs lg ⟨.blk c, .cells [.vec (lenN hs) ag xs.length cg] 32⟩) lb ⟨.blk bx, .cells [.vec lv ao xs.length cap] 32⟩) lv ⟨.sl ao cap, .vecL 3 1 encI1 xs 0⟩ = setN hs lg ⟨.blk c, .cells [.vec (lenN hs) ag xs.length cg] 32⟩ := by
      have e1 : nth (setN hs lg ⟨.blk c, .cells [.vec (lenN hs) ag xs.length cg] 32⟩) lb = some ⟨.blk bx, .cells [.vec lv ao xs.length cap] 32⟩ := by
        rw [nth_eq, setN_eq, List.getElem?_set, if_neg (ne n1), ← nth_eq]; exact h1
      have e2 : nth (setN hs lg ⟨.blk c, .cells [.vec (lenN hs) ag xs.length cg] 32⟩) lv = some ⟨.sl ao cap, .vecL 3 1 encI1 xs 0⟩ := by
        rw [nth_eq, setN_eq, List.getElem?_set, if_neg (ne n2), ← nth_eq]; exact h2
      rw [setN_selfT e1, setN_selfT e2]
    simpa [putBack, appE_eq, snoc_eq, e] using h ag cg
def asIS (_i : Nat) : Type := Option Addr × Nat
def asRS (xs : List ByteArray) (c : Nat) (t : List Ent) (i : Nat) : List Ent := [exP fun ac : asIS i => ([⟨.blk c, .cells [.vec 1 ac.1 (xs.take i).length ac.2] 93⟩, ⟨.sl ac.1 ac.2, .vecL 9 1 encS (xs.take i) ByteArray.empty⟩] ++ t)]
theorem tpS_V {xs : List ByteArray} {c : Nat} (hx : xs.length ≤ 400) : OneS (.func (.func 58) #[] (denL [.ptr 0 c 0]).toArray) xs (asRS xs c []) (fun _ => False) := by
  intro i x hxi
  obtain ⟨hi, he⟩ := List.getElem?_eq_some_iff.1 hxi
  refine VSpec.fn (by kernel_rfl) (Spec.ex (ι := asIS i) (hs' := fun ac => [⟨.blk c, .cells [.vec 1 ac.1 (xs.take i).length ac.2] 93⟩, ⟨.sl ac.1 ac.2, .vecL 9 1 encS (xs.take i) ByteArray.empty⟩]) (fun W F w hr => by
    obtain ⟨j, hj⟩ := Rep.pkex1 hr
    exact ⟨j, hj⟩) ?_)
  rintro ⟨ag, cg⟩
  have hl2 : (xs.take i).length = i := by simp; omega
  have hl3 : xs.take (i + 1) = xs.take i ++ [x] := by rw [List.take_add_one, hxi]; rfl
  refine Spec.up ?_
  show Spec Try.prog 58 [⟨.blk c, .cells [.vec 1 ag (xs.take i).length cg] 93⟩, ⟨.sl ag cg, .vecL 9 1 encS (xs.take i) ByteArray.empty⟩] [.str x, .ptr 0 c 0] _
  refine Spec.of_G 11 Try.func58 (c := bodyOf Try.f58) (by kernel_rfl) (by kernel_rfl) (Nat.le_of_ble_eq_true rfl) fun W F => ?_
  refine G_run (kc := true) (ss := []) (Cs := []) trivial hmT 600 ?_
  rw [tp2_run]
  have hlt : decide ((((xs.take i).length + 1 : Nat) : Int) < 500) = true := decide_eq_true (by omega)
  have fin : ∀ (ao2 : Option Addr) (cap2 : Nat) (e4 : Ent), up (fun h r => (h = [pk 0 (asRS xs c [] (i + 1))] ∧ r = .bool true) ∨ ∃ R' : List Ent, False ∧ h = [pk 0 R'] ∧ r = .bool false) [⟨.blk c, .cells [.vec 1 ao2 ((xs.take i).length + 1) cap2] 93⟩, ⟨.sl ao2 cap2, .vecL 9 1 encS (xs.take i ++ [x]) ByteArray.empty⟩, e4] (.bool (decide ((((xs.take i).length + 1 : Nat) : Int) < 500))) := fun ao2 cap2 e4 => by
    rw [hlt]
    refine ⟨[pk 0 (asRS xs c [] (i + 1))], .bool true, fun W F w hr => ?_, rfl, .inl ⟨rfl, rfl⟩⟩
    have h1 := Rep.pick (π := [0, 1]) (by decide) rfl hr
    refine Rep.expk1 (f := fun ac : asIS (i + 1) => ([⟨.blk c, .cells [.vec 1 ac.1 (xs.take (i + 1)).length ac.2] 93⟩, ⟨.sl ac.1 ac.2, .vecL 9 1 encS (xs.take (i + 1)) ByteArray.empty⟩] ++ [])) (ao2, cap2) ?_
    have e : (xs.take (i + 1)).length = (xs.take i).length + 1 := by rw [hl3]; simp
    dsimp only
    rw [e, hl3]
    exact h1
  repeat' first
    | exact rfl
    | (refine ⟨[x], rfl, rfl, fun ao2 cap2 _ => ⟨⟨rfl, rfl, rfl, by omega⟩, ?_⟩⟩)
    | exact fin _ _ _
    | exact ⟨rfl, fin _ _ _⟩
    | apply And.intro
    | (refine fun b1 => ?_)
    | (show _ ≤ _; omega)
    | (show _ < _; omega)
    | fail
theorem valsS_ok : CtrOk Try.prog 104 valsSC := by
  intro args hs N h
  unfold valsSC at h
  split at h
  case h_2 => exact h.elim
  rename_i g lg c lb bx
  obtain ⟨rfl, xs, lv, ao, cap, h0, h1, h2, ⟨⟨n1, n2, n3⟩, hx⟩, h⟩ := h
  have ne : ∀ {a b : Nat}, Nat.beq a b = false → a ≠ b := fun h e => by
    subst e
    simp at h
  refine Spec.at (hp := [⟨.blk c, .cells [.raw (.slice none 0 0)] 93⟩, ⟨.blk bx, .cells [.vec lv ao xs.length cap] 93⟩, ⟨.sl ao cap, .vecL 9 1 encS xs ByteArray.empty⟩]) (args' := [.func (.func 58) [] [.ptr 0 c 0], .ptr 1 bx 0]) (Post' := fun h' r => ∃ ag cg, h' = [⟨.blk c, .cells [.vec (lenN hs) ag xs.length cg] 93⟩, ⟨.blk bx, .cells [.vec lv ao xs.length cap] 93⟩, ⟨.sl ao cap, .vecL 9 1 encS xs ByteArray.empty⟩, ⟨.sl ag cg, .vecL 9 1 encS xs ByteArray.empty⟩] ∧ r = .tuple []) [lg, lb, lv] (by simpa [distinct] using ⟨⟨ne n1, ne n2⟩, ne n3⟩) (by simp [pickE, h0, h1, h2]) ?_ rfl ?_
  · intro W F w hr
    have g1 : Rep W F [⟨.blk bx, .cells [.vec 1 ao xs.length cap] 93⟩, ⟨.sl ao cap, .vecL 9 1 encS xs ByteArray.empty⟩, pk 0 (asRS xs c [] 0)] w := by
      have g2 := Rep.cellsEq (l := 1) (cs' := [.vec 1 ao xs.length cap]) rfl (by rfl) hr
      have g3 := Rep.cellsEq (l := 0) (cs' := [.vec 1 none 0 0]) rfl (by rfl) g2
      have g4 := Rep.nilvec 9 (sz := 1) (enc := encS) ByteArray.empty (fun _ => rfl) g3
      refine Rep.pkAt 0 (p := [_, _]) (t := []) ?_
      have g5 := Rep.pick (π := [0, 3, 1, 2]) (by decide) rfl g4
      have g6 : Rep W F ([exP fun ac : asIS 0 => ([⟨.blk c, .cells [.vec 1 ac.1 (xs.take 0).length ac.2] 93⟩, ⟨.sl ac.1 ac.2, .vecL 9 1 encS (xs.take 0) ByteArray.empty⟩] ++ [])] ++ [_, _]) w := Rep.ex (f := fun ac : asIS 0 => ([⟨.blk c, .cells [.vec 1 ac.1 (xs.take 0).length ac.2] 93⟩, ⟨.sl ac.1 ac.2, .vecL 9 1 encS (xs.take 0) ByteArray.empty⟩] ++ [])) (none, 0) g5
      exact Rep.pick (π := [1, 2, 0]) (by decide) rfl g6
    refine Calls.mono (valS_iter (ao := ao) (cap := cap) (bx := bx) (by omega) (tpS_V hx) W F w g1) ?_
    rintro e w' ⟨h', r, ⟨rfl, hc⟩, rfl, hr'⟩
    rcases hc with rfl | ⟨R', hs, rfl⟩
    · have h7 := Rep.unpkAt (p := [_, _]) (t := []) hr'
      have h8 := Rep.pick (π := [2, 0, 1]) (by decide) rfl h7
      obtain ⟨⟨ag, cg⟩, h9⟩ := Rep.unex (t := [_, _]) h8
      refine ⟨_, .tuple [], ⟨ag, cg, rfl, rfl⟩, rfl, ?_⟩
      have h10 := Rep.pick (π := [0, 2, 3, 1]) (by decide) rfl h9
      dsimp only at h10
      rw [List.take_length] at h10
      have h11 := Rep.cellsEq (l := 0) (cs' := [.vec (lenN hs) ag xs.length cg]) rfl (by rfl) h10
      exact Rep.cellsEq (l := 1) (cs' := [.vec lv ao xs.length cap]) rfl (by rfl) h11
    · exact hs.elim
  · rintro h' r ⟨ag, cg, rfl, rfl⟩
    refine ⟨by simp [lenN], .tuple [], rfl, ?_⟩
    have e : setN (setN (setN hs lg ⟨.blk c, .cells [.vec (lenN hs) ag xs.length cg] 93⟩) lb ⟨.blk bx, .cells [.vec lv ao xs.length cap] 93⟩) lv ⟨.sl ao cap, .vecL 9 1 encS xs ByteArray.empty⟩ = setN hs lg ⟨.blk c, .cells [.vec (lenN hs) ag xs.length cg] 93⟩ := by
      have e1 : nth (setN hs lg ⟨.blk c, .cells [.vec (lenN hs) ag xs.length cg] 93⟩) lb = some ⟨.blk bx, .cells [.vec lv ao xs.length cap] 93⟩ := by
        rw [nth_eq, setN_eq, List.getElem?_set, if_neg (ne n1), ← nth_eq]; exact h1
      have e2 : nth (setN hs lg ⟨.blk c, .cells [.vec (lenN hs) ag xs.length cg] 93⟩) lv = some ⟨.sl ao cap, .vecL 9 1 encS xs ByteArray.empty⟩ := by
        rw [nth_eq, setN_eq, List.getElem?_set, if_neg (ne n2), ← nth_eq]; exact h2
      rw [setN_selfT e1, setN_selfT e2]
    simpa [putBack, appE_eq, snoc_eq, e] using h ag cg

theorem unT_ok : AllOk Try.prog unT := ⟨inl_ok trivial hmT Try.func88 (by kernel_rfl), srtS_ok rfl ⟨_, Try.func107, by kernel_rfl, _, rfl⟩ (fun w b rm nn D0 h1 h2 h3 => AnyZ.keys_gives (ρ := keysU_ren) { keysU with } Fence.wide _ trivial rfl (by omega) b rm nn D0 w h1 h2 h3), inl_ok trivial hmT Try.func86 (by kernel_rfl), trivial⟩
theorem units_ok : CtrOk Try.prog 57 unitsC := by
  intro args hs N h
  unfold unitsC at h
  split at h
  case h_2 => exact h.elim
  rename_i l b
  split at h
  case h_2 => exact h.elim
  rename_i b' σ' p s hl
  obtain ⟨rfl, rfl, hp, hw, hN⟩ := h
  cases hp
  simp only [cast_eq] at hw hN
  refine Spec.at (hp := [pkA b' trkE s]) (args' := [.ptr 0 b' 0]) (Post' := fun h' r => ∃ ao cap bx, h' = [pkA b' trkE s, ⟨.sl ao cap, .vecL 9 1 encS (sortS s.ps) ByteArray.empty⟩, ⟨.blk bx, .cells [.vec (lenN hs) ao (sortS s.ps).length cap] 93⟩] ∧ r = .func (.func 104) [] [.ptr 2 bx 0]) [l] (by simp [distinct]) (by simp [pickE, hl, pkA]) ?_ rfl ?_
  · refine Spec.up ?_
    refine Spec.pre (hs' := [⟨.blk b', .cells [.map 1 s.bo, .map 2 s.bp] 140⟩, ⟨.blk s.bo, .mapL (some .i64) encO s.of⟩, ⟨.blk s.bp, .mapL none encT s.ps⟩, pk 0 (s.ps.map setE)]) (args' := [.ptr 0 b' 0]) (fun W F w hr => hr.unpkA1) rfl ?_
    refine Spec.of_G 10 Try.func57 (c := bodyOf Try.f57) (by kernel_rfl) (by kernel_rfl) (Nat.le_of_ble_eq_true rfl) fun W F => ?_
    refine G_run (kc := true) (ss := []) unT_ok hmT 600 ?_
    rw [un_run]
    have fin : ∀ (ao : Option Addr) (cap b1 bx : Nat), up (fun h' r => ∃ ao cap bx, h' = [pkA b' trkE s, ⟨.sl ao cap, .vecL 9 1 encS (sortS s.ps) ByteArray.empty⟩, ⟨.blk bx, .cells [.vec (lenN hs) ao (sortS s.ps).length cap] 93⟩] ∧ r = .func (.func 104) [] [.ptr 2 bx 0]) [⟨.blk b', .cells [.map 1 s.bo, .map 2 s.bp] 140⟩, ⟨.blk s.bo, .mapL (some .i64) encO s.of⟩, ⟨.blk s.bp, .mapL none encT s.ps⟩, pk 0 (s.ps.map setE), ⟨.blk b1, .cells [.map 2 s.bp] 138⟩, ⟨.sl ao cap, .vecL 9 1 encS1 (sortS s.ps) ByteArray.empty⟩, ⟨.blk bx, .cells [.vec 5 ao (sortS s.ps).length cap] 93⟩] (.func (.func 104) [] [.ptr 6 bx 0]) := fun ao cap b1 bx => by
      refine ⟨[pkA b' trkE s, ⟨.sl ao cap, .vecL 9 1 encS (sortS s.ps) ByteArray.empty⟩, ⟨.blk bx, .cells [.vec (lenN hs) ao (sortS s.ps).length cap] 93⟩], .func (.func 104) [] [.ptr 2 bx 0], fun W F w hr => ?_, rfl, ao, cap, bx, rfl, rfl⟩
      have h2 := Rep.pick (π := [0, 1, 2, 3, 5, 6]) (by decide) rfl hr
      have h3 := Rep.cellsEq (l := 5) (cs' := [.vec (lenN hs) ao (sortS s.ps).length cap]) rfl (by rfl) h2
      exact Rep.pkA (S := trkE) (s := s) (t := [_, _]) h3
    repeat' first
      | exact rfl
      | exact HEq.rfl
      | exact hw
      | exact fin _ _ _ _
      | apply And.intro
      | (refine fun _ => ?_)
      | fail
  · rintro h' r ⟨ao, cap, bx, rfl, rfl⟩
    refine ⟨by simp [lenN], .func (.func 104) [] [.ptr (lenN hs + 1) bx 0], rfl, ?_⟩
    have e0 : setN hs l (pkA b' trkE s) = hs := setN_selfT hl
    have := hN ao cap bx
    simpa [putBack, appE_eq, snoc_eq, e0] using this
end Go.Proofs.Ytihajdkipkfiiaa

/- YtihajdkipkfiiaaTp1Run -/
namespace Go.Proofs.Ytihajdkipkfiiaa
set_option linter.unusedVariables false
open Go Go.RowKit
set_option maxHeartbeats 0
set_option maxRecDepth 100000
set_option maxRecDepth 100000

theorem at_start (K : List Frm → Sy → Prop) (N : List Ent → SV → Prop) (m : PRow) (ao : Option Addr) (cap : Nat) (pid : Int) : (run Try.prog [] false [] K (retP Try.prog Try.f50.results.toList N) 600 [.code (bodyOf Try.f50)] ⟨padTo 20 [.vec 0 ao m.length cap, .int .i64 pid], [⟨.sl ao cap, .vecL 88 2 encPr m zPr⟩]⟩) = (
K (frm [] (bodyOf Try.f50) [1, 0, 1, 0] [])
 (Sy.mk (SV.vec 0 ao (List.length m) cap :: (SV.int IntKind.i64 pid :: (SV.raw (Value.tuple #[]) :: (SV.raw (Value.tuple #[]) :: (SV.int IntKind.i64 (0 : Int) :: (SV.int IntKind.i64 (0 : Int) :: (rawE [] 14)))))))
  [Ent.mk (Loc.sl ao cap) (SObj.vecL (88 : TypeId) 2 encPr m ((0 : Int), ByteArray.mk #[]))])) := by kernel_rfl


theorem at_body (K : List Frm → Sy → Prop) (N : List Ent → SV → Prop) (J : Act → World → Prop) (m : PRow) (ao : Option Addr) (cap : Nat) (pid : Int) (i : Nat) (u : Nat → Value) : (run Try.prog [] false [] K (retP Try.prog Try.f50.results.toList N) 900 (frm [J] (bodyOf Try.f50) [1, 0, 1, 0, 0] []) ⟨mkT u 20 0 [(0, .vec 0 ao m.length cap), (1, .int .i64 pid), (5, .int .i64 (i : Int))], [⟨.sl ao cap, .vecL 88 2 encPr m zPr⟩]⟩) = (
match decide ((↑i : Int) < (↑(List.length m) : Int)) with
| true =>
 (ao = ao ∧ cap = cap ∧ List.length m = List.length m ∧ (0 : Int) ≤ (↑i : Int) ∧ (↑i : Int) < (↑(List.length m) : Int)) ∧
  (Addr.blkD ao = Addr.blkD ao ∧ Addr.offD ao = Addr.offD ao ∧ 2 = 2 ∧ Int.toNat (↑i : Int) < List.length m) ∧
   match (List.getD m (Int.toNat (↑i : Int)) ((0 : Int), ByteArray.mk #[])).1 == pid with
   | true => N [Ent.mk (Loc.sl ao cap) (SObj.vecL (88 : TypeId) 2 encPr m ((0 : Int), ByteArray.mk #[]))] (SV.int IntKind.i64 (↑i : Int))
   | false =>
    K (Frm.loop J :: Frm.blk 0 :: frm [] (bodyOf Try.f50) [1, 1] [])
     (Sy.mk (SV.vec 0 ao (List.length m) cap :: (SV.int IntKind.i64 pid :: (rawR u 2 (SV.int IntKind.i64 (IntKind.wrap IntKind.i64 ((↑i : Int) + (1 : Int))) :: (SV.int IntKind.i64 (↑i : Int) :: (SV.vec 0 ao (List.length m) cap :: (SV.int IntKind.i64 (↑(List.length m) : Int) :: (SV.bool true :: (SV.int IntKind.i64 (↑i : Int) :: (SV.int IntKind.i64 (IntKind.wrap IntKind.i64 ((↑i : Int) + (1 : Int))) :: (SV.vec 0 ao (List.length m) cap :: (SV.int IntKind.i64 (↑i : Int) :: (SV.eptr 0 (Addr.blkD ao) (Addr.offD ao) 2 (Int.toNat (↑i : Int)) 0 :: (SV.eptr 0 (Addr.blkD ao) (Addr.offD ao) 2 (Int.toNat (↑i : Int)) 0 :: (SV.int IntKind.i64 (List.getD m (Int.toNat (↑i : Int)) ((0 : Int), ByteArray.mk #[])).1 :: (SV.int IntKind.i64 pid :: (SV.bool false :: (SV.raw (u 19) :: []))))))))))))))) 3)))
      [Ent.mk (Loc.sl ao cap) (SObj.vecL (88 : TypeId) 2 encPr m ((0 : Int), ByteArray.mk #[]))])
| false => N [Ent.mk (Loc.sl ao cap) (SObj.vecL (88 : TypeId) 2 encPr m ((0 : Int), ByteArray.mk #[]))] (SV.int IntKind.i64 (-1 : Int))) := by kernel_rfl


theorem put_start (K : List Frm → Sy → Prop) (N : List Ent → SV → Prop) (m : PRow) (ao : Option Addr) (cap : Nat) (pid : Int) (n : ByteArray) : (run Try.prog [] false [] K (retP Try.prog Try.f51.results.toList N) 600 [.code (bodyOf Try.f51)] ⟨padTo 35 [.vec 0 ao m.length cap, .agg [.int .i64 pid, .str n]], [⟨.sl ao cap, .vecL 88 2 encPr m zPr⟩]⟩) = (
true = true ∧
 ∀ (b : Nat),
  K (frm [] (bodyOf Try.f51) [1, 1, 0, 0] [])
   (Sy.mk (SV.vec 0 ao (List.length m) cap :: (SV.agg [SV.int IntKind.i64 pid, SV.str n] :: (SV.raw (Value.tuple #[]) :: (SV.ptr 1 b 0 :: (SV.raw (Value.slice (@none Addr) 0 0) :: (SV.int IntKind.i64 (0 : Int) :: (rawE [] 29)))))))
    [Ent.mk (Loc.sl ao cap) (SObj.vecL (88 : TypeId) 2 encPr m ((0 : Int), ByteArray.mk #[])), Ent.mk (Loc.blk b) (SObj.cells [SV.int IntKind.i64 pid, SV.str n] 88)])) := by kernel_rfl


theorem put_body (K : List Frm → Sy → Prop) (N : List Ent → SV → Prop) (J : Act → World → Prop) (m : PRow) (ao : Option Addr) (cap : Nat) (pid : Int) (n : ByteArray) (bx i : Nat) (u : Nat → Value) : (run Try.prog [] false [] K (retP Try.prog Try.f51.results.toList N) 900 (frm [J] (bodyOf Try.f51) [1, 1, 0, 0, 0] []) ⟨mkT u 35 0 [(0, .vec 0 ao m.length cap), (3, .ptr 1 bx 0), (5, .int .i64 (i : Int))], [⟨.sl ao cap, .vecL 88 2 encPr m zPr⟩, ⟨.blk bx, .cells [.int .i64 pid, .str n] 88⟩]⟩) = (
match decide ((↑i : Int) < (↑(List.length m) : Int)) with
| true =>
 (ao = ao ∧ cap = cap ∧ List.length m = List.length m ∧ (0 : Int) ≤ (↑i : Int) ∧ (↑i : Int) < (↑(List.length m) : Int)) ∧
  (Addr.blkD ao = Addr.blkD ao ∧ Addr.offD ao = Addr.offD ao ∧ 2 = 2 ∧ Int.toNat (↑i : Int) < List.length m) ∧
   bx = bx ∧
    match decide ((List.getD m (Int.toNat (↑i : Int)) ((0 : Int), ByteArray.mk #[])).1 < pid) with
    | true =>
     K (Frm.loop J :: Frm.blk 0 :: frm [] (bodyOf Try.f51) [1, 1, 1] [])
      (Sy.mk (SV.vec 0 ao (List.length m) cap :: (SV.raw (u 1) :: (SV.raw (u 2) :: (SV.ptr 1 bx 0 :: (SV.raw (u 4) :: (SV.int IntKind.i64 (IntKind.wrap IntKind.i64 ((↑i : Int) + (1 : Int))) :: (SV.raw (u 6) :: (SV.int IntKind.i64 (↑i : Int) :: (SV.vec 0 ao (List.length m) cap :: (SV.int IntKind.i64 (↑(List.length m) : Int) :: (SV.bool (decide ((↑i : Int) < (↑(List.length m) : Int))) :: (SV.bool true :: (SV.vec 0 ao (List.length m) cap :: (SV.int IntKind.i64 (↑i : Int) :: (SV.eptr 0 (Addr.blkD ao) (Addr.offD ao) 2 (Int.toNat (↑i : Int)) 0 :: (SV.eptr 0 (Addr.blkD ao) (Addr.offD ao) 2 (Int.toNat (↑i : Int)) 0 :: (SV.int IntKind.i64 (List.getD m (Int.toNat (↑i : Int)) ((0 : Int), ByteArray.mk #[])).1 :: (SV.ptr 1 bx 0 :: (SV.int IntKind.i64 pid :: (SV.bool (decide ((List.getD m (Int.toNat (↑i : Int)) ((0 : Int), ByteArray.mk #[])).1 < pid)) :: (SV.bool true :: (SV.int IntKind.i64 (↑i : Int) :: (SV.int IntKind.i64 (IntKind.wrap IntKind.i64 ((↑i : Int) + (1 : Int))) :: (rawR u 23 [] 12))))))))))))))))))))))))
       [Ent.mk (Loc.sl ao cap) (SObj.vecL (88 : TypeId) 2 encPr m ((0 : Int), ByteArray.mk #[])), Ent.mk (Loc.blk bx) (SObj.cells [SV.int IntKind.i64 pid, SV.str n] (88 : TypeId))])
    | false =>
     ((0 : Int) ≤ (↑i : Int) ∧ (↑i : Int) ≤ (↑cap : Int)) ∧
      (ao = ao ∧
       cap = cap ∧
        2 = 2 ∧
         2 = 2 ∧
          0 ≤ Int.toNat (↑i : Int) ∧
           Int.toNat (↑i : Int) ≤ List.length m ∧
            (Int.toNat (↑i : Int) - 0) * 24 ≤ 140737488355328 ∧ Int.toNat (↑i : Int) - 0 ≤ 9223372036854775807) ∧
       ∀ (ao2 : Option Addr) (cap2 : Nat),
        Int.toNat (↑i : Int) - 0 ≤ cap2 →
         ((0 : Int) ≤ (↑i : Int) ∧ (↑i : Int) ≤ (↑(List.length m) : Int) ∧ List.length m ≤ cap) ∧
          (bx = bx ∧ 2 = 2) ∧
           (true = true ∧ 2 = 2 ∧ 0 < 2 ∧ 2 ≤ 16777216) ∧
            ∀ (b : Nat),
             (Ent.mk (Loc.sl ao cap) (SObj.vecL (88 : TypeId) 2 encPr m ((0 : Int), ByteArray.mk #[])) =
              Ent.mk (Loc.sl ao cap) (SObj.vecL (88 : TypeId) 2 encPr m ((0 : Int), ByteArray.mk #[])) ∧
              Ent.mk (Loc.blk bx) (SObj.cells [SV.int IntKind.i64 pid, SV.str n] (88 : TypeId)) = Ent.mk (Loc.blk bx) (SObj.cells [SV.int IntKind.i64 pid, SV.str n] (88 : TypeId)) ∧
               Ent.mk (Loc.sl ao2 cap2) (SObj.vecL 88 2 encPr (List.take (Int.toNat (↑i : Int) - 0) (List.drop 0 m)) ((0 : Int), ByteArray.mk #[])) =
                Ent.mk (Loc.sl ao2 cap2)
                 (SObj.vecL 88 2 encPr (List.take (Int.toNat (↑i : Int) - 0) (List.drop 0 m)) ((0 : Int), ByteArray.mk #[])) ∧
                True) ∧
              (ao2 = ao2 ∧
               cap2 = cap2 ∧
                Int.toNat (↑i : Int) - 0 = List.length (List.take (Int.toNat (↑i : Int) - 0) (List.drop 0 m)) ∧
                 some (Addr.mk b 0 (@none Nat)) = some (Addr.mk b 0 (@none Nat)) ∧
                  88 = 88 ∧
                   2 = 2 ∧
                    2 = 2 ∧
                     0 < 1 ∧
                      true = true ∧
                       (Int.toNat (↑i : Int) - 0 + 1) * 24 ≤ 140737488355328 ∧
                        Int.toNat (↑i : Int) - 0 + 1 ≤ 9223372036854775807) ∧
               ∃ (es : List (Int × ByteArray)),
                List.length es = 1 ∧
                 List.flatMap encPr es = [SV.int IntKind.i64 pid, SV.str n] ∧
                  ∀ (ao2 : Option Addr) (cap2 : Nat),
                   Int.toNat (↑i : Int) - 0 + 1 ≤ cap2 →
                    (ao2 = ao2 ∧
                     cap2 = cap2 ∧
                      Int.toNat (↑i : Int) - 0 + 1 = List.length (List.take (Int.toNat (↑i : Int) - 0) (List.drop 0 m) ++ es) ∧
                       88 = 88 ∧
                        2 = 2 ∧
                         ao = ao ∧
                          cap = cap ∧
                           2 = 2 ∧
                            2 = 2 ∧
                             Int.toNat (↑i : Int) ≤ List.length m ∧
                              List.length m ≤ List.length m ∧
                               (∀ (y : Int × ByteArray), true = true) ∧
                                (Int.toNat (↑i : Int) - 0 + 1 + (List.length m - Int.toNat (↑i : Int))) * 24 ≤ 140737488355328 ∧
                                 Int.toNat (↑i : Int) - 0 + 1 + (List.length m - Int.toNat (↑i : Int)) ≤ 9223372036854775807) ∧
                     ∃ (es_1 : List (Int × ByteArray)),
                      List.length es_1 = List.length m - Int.toNat (↑i : Int) ∧
                       List.flatMap encPr es_1 = List.flatMap encPr (List.take (List.length m - Int.toNat (↑i : Int)) (List.drop (Int.toNat (↑i : Int)) m)) ∧
                        ∀ (ao2 : Option Addr) (cap2 : Nat),
                         Int.toNat (↑i : Int) - 0 + 1 + (List.length m - Int.toNat (↑i : Int)) ≤ cap2 →
                          N
                           [Ent.mk (Loc.sl ao cap) (SObj.vecL (88 : TypeId) 2 encPr m ((0 : Int), ByteArray.mk #[])),
                            Ent.mk (Loc.blk bx) (SObj.cells [SV.int IntKind.i64 pid, SV.str n] (88 : TypeId)),
                            Ent.mk (Loc.sl ao2 cap2)
                             (SObj.vecL 88 2 encPr (List.take (Int.toNat (↑i : Int) - 0) (List.drop 0 m) ++ es ++ es_1)
                              ((0 : Int), ByteArray.mk #[])),
                            Ent.mk (Loc.blk b) (SObj.cells [SV.int IntKind.i64 pid, SV.str n] 88)]
                           (SV.vec 2 ao2 (Int.toNat (↑i : Int) - 0 + 1 + (List.length m - Int.toNat (↑i : Int))) cap2)
| false =>
 ((0 : Int) ≤ (↑i : Int) ∧ (↑i : Int) ≤ (↑cap : Int)) ∧
  (ao = ao ∧
   cap = cap ∧
    2 = 2 ∧
     2 = 2 ∧
      0 ≤ Int.toNat (↑i : Int) ∧
       Int.toNat (↑i : Int) ≤ List.length m ∧ (Int.toNat (↑i : Int) - 0) * 24 ≤ 140737488355328 ∧ Int.toNat (↑i : Int) - 0 ≤ 9223372036854775807) ∧
   ∀ (ao2 : Option Addr) (cap2 : Nat),
    Int.toNat (↑i : Int) - 0 ≤ cap2 →
     ((0 : Int) ≤ (↑i : Int) ∧ (↑i : Int) ≤ (↑(List.length m) : Int) ∧ List.length m ≤ cap) ∧
      (bx = bx ∧ 2 = 2) ∧
       (true = true ∧ 2 = 2 ∧ 0 < 2 ∧ 2 ≤ 16777216) ∧
        ∀ (b : Nat),
         (Ent.mk (Loc.sl ao cap) (SObj.vecL (88 : TypeId) 2 encPr m ((0 : Int), ByteArray.mk #[])) =
          Ent.mk (Loc.sl ao cap) (SObj.vecL (88 : TypeId) 2 encPr m ((0 : Int), ByteArray.mk #[])) ∧
          Ent.mk (Loc.blk bx) (SObj.cells [SV.int IntKind.i64 pid, SV.str n] (88 : TypeId)) = Ent.mk (Loc.blk bx) (SObj.cells [SV.int IntKind.i64 pid, SV.str n] (88 : TypeId)) ∧
           Ent.mk (Loc.sl ao2 cap2) (SObj.vecL 88 2 encPr (List.take (Int.toNat (↑i : Int) - 0) (List.drop 0 m)) ((0 : Int), ByteArray.mk #[])) =
            Ent.mk (Loc.sl ao2 cap2) (SObj.vecL 88 2 encPr (List.take (Int.toNat (↑i : Int) - 0) (List.drop 0 m)) ((0 : Int), ByteArray.mk #[])) ∧
            True) ∧
          (ao2 = ao2 ∧
           cap2 = cap2 ∧
            Int.toNat (↑i : Int) - 0 = List.length (List.take (Int.toNat (↑i : Int) - 0) (List.drop 0 m)) ∧
             some (Addr.mk b 0 (@none Nat)) = some (Addr.mk b 0 (@none Nat)) ∧
              88 = 88 ∧
               2 = 2 ∧
                2 = 2 ∧
                 0 < 1 ∧
                  true = true ∧
                   (Int.toNat (↑i : Int) - 0 + 1) * 24 ≤ 140737488355328 ∧
                    Int.toNat (↑i : Int) - 0 + 1 ≤ 9223372036854775807) ∧
           ∃ (es : List (Int × ByteArray)),
            List.length es = 1 ∧
             List.flatMap encPr es = [SV.int IntKind.i64 pid, SV.str n] ∧
              ∀ (ao2 : Option Addr) (cap2 : Nat),
               Int.toNat (↑i : Int) - 0 + 1 ≤ cap2 →
                (ao2 = ao2 ∧
                 cap2 = cap2 ∧
                  Int.toNat (↑i : Int) - 0 + 1 = List.length (List.take (Int.toNat (↑i : Int) - 0) (List.drop 0 m) ++ es) ∧
                   88 = 88 ∧
                    2 = 2 ∧
                     ao = ao ∧
                      cap = cap ∧
                       2 = 2 ∧
                        2 = 2 ∧
                         Int.toNat (↑i : Int) ≤ List.length m ∧
                          List.length m ≤ List.length m ∧
                           (∀ (y : Int × ByteArray), true = true) ∧
                            (Int.toNat (↑i : Int) - 0 + 1 + (List.length m - Int.toNat (↑i : Int))) * 24 ≤ 140737488355328 ∧
                             Int.toNat (↑i : Int) - 0 + 1 + (List.length m - Int.toNat (↑i : Int)) ≤ 9223372036854775807) ∧
                 ∃ (es_1 : List (Int × ByteArray)),
                  List.length es_1 = List.length m - Int.toNat (↑i : Int) ∧
                   List.flatMap encPr es_1 = List.flatMap encPr (List.take (List.length m - Int.toNat (↑i : Int)) (List.drop (Int.toNat (↑i : Int)) m)) ∧
                    ∀ (ao2 : Option Addr) (cap2 : Nat),
                     Int.toNat (↑i : Int) - 0 + 1 + (List.length m - Int.toNat (↑i : Int)) ≤ cap2 →
                      N
                       [Ent.mk (Loc.sl ao cap) (SObj.vecL (88 : TypeId) 2 encPr m ((0 : Int), ByteArray.mk #[])),
                        Ent.mk (Loc.blk bx) (SObj.cells [SV.int IntKind.i64 pid, SV.str n] (88 : TypeId)),
                        Ent.mk (Loc.sl ao2 cap2)
                         (SObj.vecL 88 2 encPr (List.take (Int.toNat (↑i : Int) - 0) (List.drop 0 m) ++ es ++ es_1)
                          ((0 : Int), ByteArray.mk #[])),
                        Ent.mk (Loc.blk b) (SObj.cells [SV.int IntKind.i64 pid, SV.str n] 88)]
                       (SV.vec 2 ao2 (Int.toNat (↑i : Int) - 0 + 1 + (List.length m - Int.toNat (↑i : Int))) cap2)) := by kernel_rfl


theorem wo_run (K : List Frm → Sy → Prop) (N : List Ent → SV → Prop) (m : PRow) (ao : Option Addr) (cap : Nat) (i : Nat) : (run Try.prog [] false [] K (retP Try.prog Try.f52.results.toList N) 900 [.code (bodyOf Try.f52)] ⟨padTo 14 [.vec 0 ao m.length cap, .int .i64 (i : Int)], [⟨.sl ao cap, .vecL 88 2 encPr m zPr⟩]⟩) = (
((0 : Int) ≤ (↑i : Int) ∧ (↑i : Int) ≤ (↑cap : Int)) ∧
 ((0 : Int) ≤ IntKind.wrap IntKind.i64 ((↑i : Int) + (1 : Int)) ∧ IntKind.wrap IntKind.i64 ((↑i : Int) + (1 : Int)) ≤ (↑(List.length m) : Int) ∧ List.length m ≤ cap) ∧
  (ao = ao ∧
   cap = cap ∧
    2 = 2 ∧
     2 = 2 ∧
      0 ≤ Int.toNat (↑i : Int) ∧
       Int.toNat (↑i : Int) ≤ List.length m ∧ (Int.toNat (↑i : Int) - 0) * 24 ≤ 140737488355328 ∧ Int.toNat (↑i : Int) - 0 ≤ 9223372036854775807) ∧
   ∀ (ao2 : Option Addr) (cap2 : Nat),
    Int.toNat (↑i : Int) - 0 ≤ cap2 →
     (ao2 = ao2 ∧
      cap2 = cap2 ∧
       Int.toNat (↑i : Int) - 0 = List.length (List.take (Int.toNat (↑i : Int) - 0) (List.drop 0 m)) ∧
        88 = 88 ∧
         2 = 2 ∧
          ao = ao ∧
           cap = cap ∧
            2 = 2 ∧
             2 = 2 ∧
              Int.toNat (IntKind.wrap IntKind.i64 ((↑i : Int) + (1 : Int))) ≤ List.length m ∧
               List.length m ≤ List.length m ∧
                (∀ (y : Int × ByteArray), true = true) ∧
                 (Int.toNat (↑i : Int) - 0 + (List.length m - Int.toNat (IntKind.wrap IntKind.i64 ((↑i : Int) + (1 : Int))))) * 24 ≤ 140737488355328 ∧
                  Int.toNat (↑i : Int) - 0 + (List.length m - Int.toNat (IntKind.wrap IntKind.i64 ((↑i : Int) + (1 : Int)))) ≤ 9223372036854775807) ∧
      ∃ (es : List (Int × ByteArray)),
       List.length es = List.length m - Int.toNat (IntKind.wrap IntKind.i64 ((↑i : Int) + (1 : Int))) ∧
        List.flatMap encPr es =
         List.flatMap encPr
          (List.take (List.length m - Int.toNat (IntKind.wrap IntKind.i64 ((↑i : Int) + (1 : Int)))) (List.drop (Int.toNat (IntKind.wrap IntKind.i64 ((↑i : Int) + (1 : Int)))) m)) ∧
         ∀ (ao2 : Option Addr) (cap2 : Nat),
          Int.toNat (↑i : Int) - 0 + (List.length m - Int.toNat (IntKind.wrap IntKind.i64 ((↑i : Int) + (1 : Int)))) ≤ cap2 →
           N
            [Ent.mk (Loc.sl ao cap) (SObj.vecL (88 : TypeId) 2 encPr m ((0 : Int), ByteArray.mk #[])),
             Ent.mk (Loc.sl ao2 cap2) (SObj.vecL 88 2 encPr (List.take (Int.toNat (↑i : Int) - 0) (List.drop 0 m) ++ es) ((0 : Int), ByteArray.mk #[]))]
            (SV.vec 1 ao2 (Int.toNat (↑i : Int) - 0 + (List.length m - Int.toNat (IntKind.wrap IntKind.i64 ((↑i : Int) + (1 : Int))))) cap2)) := by kernel_rfl


theorem pi_start (K : List Frm → Sy → Prop) (N : List Ent → SV → Prop) (m : PRow) (ao : Option Addr) (cap : Nat) (n : ByteArray) : (run Try.prog [] false [] K (retP Try.prog Try.f54.results.toList N) 600 [.code (bodyOf Try.f54)] ⟨padTo 29 [.vec 0 ao m.length cap, .str n], [⟨.sl ao cap, .vecL 88 2 encPr m zPr⟩]⟩) = (
K (frm [] (bodyOf Try.f54) [1, 1, 0, 1, 0] [])
 (Sy.mk (SV.vec 0 ao (List.length m) cap :: (SV.str n :: (SV.raw (Value.tuple #[]) :: (SV.raw (Value.tuple #[]) :: (SV.raw (Value.slice (@none Addr) 0 0) :: (SV.raw (Value.slice (@none Addr) 0 0) :: (SV.int IntKind.i64 (0 : Int) :: (rawE [] 22))))))))
  [Ent.mk (Loc.sl ao cap) (SObj.vecL (88 : TypeId) 2 encPr m ((0 : Int), ByteArray.mk #[]))])) := by kernel_rfl


theorem pi_body (K : List Frm → Sy → Prop) (N : List Ent → SV → Prop) (J : Act → World → Prop) (m : PRow) (ao : Option Addr) (cap : Nat) (n : ByteArray) (got : List Int) (ag : Option Addr) (cg i : Nat) (u : Nat → Value) : (run Try.prog [] false [] K (retP Try.prog Try.f54.results.toList N) 900 (frm [J] (bodyOf Try.f54) [1, 1, 0, 1, 0, 0] []) ⟨mkT u 29 0 [(0, .vec 0 ao m.length cap), (1, .str n), (5, .vec 1 ag got.length cg), (6, .int .i64 (i : Int))], [⟨.sl ao cap, .vecL 88 2 encPr m zPr⟩, ⟨.sl ag cg, .vecL 3 1 encI1 got 0⟩]⟩) = (
match decide ((↑i : Int) < (↑(List.length m) : Int)) with
| true =>
 (ao = ao ∧ cap = cap ∧ List.length m = List.length m ∧ (0 : Int) ≤ (↑i : Int) ∧ (↑i : Int) < (↑(List.length m) : Int)) ∧
  (Addr.blkD ao = Addr.blkD ao ∧ Addr.offD ao = Addr.offD ao ∧ 2 = 2 ∧ Int.toNat (↑i : Int) < List.length m) ∧
   match sEq (List.getD m (Int.toNat (↑i : Int)) ((0 : Int), ByteArray.mk #[])).2 n with
   | true =>
    (ao = ao ∧ cap = cap ∧ List.length m = List.length m ∧ (0 : Int) ≤ (↑i : Int) ∧ (↑i : Int) < (↑(List.length m) : Int)) ∧
     (Addr.blkD ao = Addr.blkD ao ∧ Addr.offD ao = Addr.offD ao ∧ 2 = 2 ∧ Int.toNat (↑i : Int) < List.length m) ∧
      (true = true ∧ 1 = 1 ∧ 0 < 1 ∧ 1 ≤ 16777216) ∧
       ∀ (b : Nat),
        (ag = ag ∧
         cg = cg ∧
          List.length got = List.length got ∧
           some (Addr.mk b 0 (@none Nat)) = some (Addr.mk b 0 (@none Nat)) ∧
            (3 : TypeId) = 3 ∧
             1 = 1 ∧
              1 = 1 ∧
               0 < 1 ∧ true = true ∧ (List.length got + 1) * 8 ≤ 140737488355328 ∧ List.length got + 1 ≤ 9223372036854775807) ∧
         ∃ (es : List Int),
          List.length es = 1 ∧
           List.flatMap encI1 es = [SV.int IntKind.i64 (List.getD m (Int.toNat (↑i : Int)) ((0 : Int), ByteArray.mk #[])).1] ∧
            ∀ (ao2 : Option Addr) (cap2 : Nat),
             List.length got + 1 ≤ cap2 →
              K (Frm.loop J :: Frm.blk 0 :: frm [] (bodyOf Try.f54) [1, 1, 1] [])
               (Sy.mk (SV.vec 0 ao (List.length m) cap :: (SV.str n :: (rawR u 2 (SV.vec 1 ao2 (List.length got + 1) cap2 :: (SV.int IntKind.i64 (IntKind.wrap IntKind.i64 ((↑i : Int) + (1 : Int))) :: (SV.int IntKind.i64 (↑i : Int) :: (SV.vec 0 ao (List.length m) cap :: (SV.int IntKind.i64 (↑(List.length m) : Int) :: (SV.bool true :: (SV.int IntKind.i64 (↑i : Int) :: (SV.int IntKind.i64 (IntKind.wrap IntKind.i64 ((↑i : Int) + (1 : Int))) :: (SV.vec 0 ao (List.length m) cap :: (SV.int IntKind.i64 (↑i : Int) :: (SV.eptr 0 (Addr.blkD ao) (Addr.offD ao) 2 (Int.toNat (↑i : Int)) 0 :: (SV.eptr 0 (Addr.blkD ao) (Addr.offD ao) 2 (Int.toNat (↑i : Int)) 1 :: (SV.str (List.getD m (Int.toNat (↑i : Int)) ((0 : Int), ByteArray.mk #[])).2 :: (SV.str n :: (SV.bool true :: (SV.vec 1 ag (List.length got) cg :: (SV.vec 0 ao (List.length m) cap :: (SV.int IntKind.i64 (↑i : Int) :: (SV.eptr 0 (Addr.blkD ao) (Addr.offD ao) 2 (Int.toNat (↑i : Int)) 0 :: (SV.eptr 0 (Addr.blkD ao) (Addr.offD ao) 2 (Int.toNat (↑i : Int)) 0 :: (SV.int IntKind.i64 (List.getD m (Int.toNat (↑i : Int)) ((0 : Int), ByteArray.mk #[])).1 :: (SV.vec 2 (some (Addr.mk b 0 (@none Nat))) 1 1 :: (SV.vec 1 ao2 (List.length got + 1) cap2 :: (SV.raw (u 28) :: [])))))))))))))))))))))))) 3)))
                [Ent.mk (Loc.sl ao cap) (SObj.vecL (88 : TypeId) 2 encPr m ((0 : Int), ByteArray.mk #[])),
                 Ent.mk (Loc.sl ao2 cap2) (SObj.vecL (3 : TypeId) 1 encI1 (got ++ es) (0 : Int)),
                 Ent.mk (Loc.blk b) (SObj.cells [SV.int IntKind.i64 (List.getD m (Int.toNat (↑i : Int)) ((0 : Int), ByteArray.mk #[])).1] 3)])
   | false =>
    K (Frm.loop J :: Frm.blk 0 :: frm [] (bodyOf Try.f54) [1, 1, 1] [])
     (Sy.mk (SV.vec 0 ao (List.length m) cap :: (SV.str n :: (rawR u 2 (SV.vec 1 ag (List.length got) cg :: (SV.int IntKind.i64 (IntKind.wrap IntKind.i64 ((↑i : Int) + (1 : Int))) :: (SV.int IntKind.i64 (↑i : Int) :: (SV.vec 0 ao (List.length m) cap :: (SV.int IntKind.i64 (↑(List.length m) : Int) :: (SV.bool true :: (SV.int IntKind.i64 (↑i : Int) :: (SV.int IntKind.i64 (IntKind.wrap IntKind.i64 ((↑i : Int) + (1 : Int))) :: (SV.vec 0 ao (List.length m) cap :: (SV.int IntKind.i64 (↑i : Int) :: (SV.eptr 0 (Addr.blkD ao) (Addr.offD ao) 2 (Int.toNat (↑i : Int)) 0 :: (SV.eptr 0 (Addr.blkD ao) (Addr.offD ao) 2 (Int.toNat (↑i : Int)) 1 :: (SV.str (List.getD m (Int.toNat (↑i : Int)) ((0 : Int), ByteArray.mk #[])).2 :: (SV.str n :: (SV.bool false :: (rawR u 20 [] 9)))))))))))))))) 3)))
      [Ent.mk (Loc.sl ao cap) (SObj.vecL (88 : TypeId) 2 encPr m ((0 : Int), ByteArray.mk #[])), Ent.mk (Loc.sl ag cg) (SObj.vecL (3 : TypeId) 1 encI1 got (0 : Int))])
| false =>
 N [Ent.mk (Loc.sl ao cap) (SObj.vecL (88 : TypeId) 2 encPr m ((0 : Int), ByteArray.mk #[])), Ent.mk (Loc.sl ag cg) (SObj.vecL (3 : TypeId) 1 encI1 got (0 : Int))]
  (SV.vec 1 ag (List.length got) cg)) := by kernel_rfl
end Go.Proofs.Ytihajdkipkfiiaa

/- YtihajdkipkfiiaaTp1 -/
/- TrackPlays: the law's own functions. -/
namespace Go.Proofs.Ytihajdkipkfiiaa
open Go Go.RowKit
set_option linter.unusedVariables false
set_option linter.unusedSimpArgs false
set_option linter.unnecessarySimpa false
set_option maxHeartbeats 0

theorem getD_ltP (m : PRow) (d : Int × ByteArray) (i : Nat) (h : i < m.length) : m.getD i d = m[i] := by simp [List.getD, h]
theorem at_spec (m : PRow) (ao : Option Addr) (cap : Nat) (pid : Int) (hm : m.length ≤ 1000000) : Spec Try.prog 50 [⟨.sl ao cap, .vecL 88 2 encPr m zPr⟩] [.vec 0 ao m.length cap, .int .i64 pid] fun h' r => h' = [⟨.sl ao cap, .vecL 88 2 encPr m zPr⟩] ∧ r = .int .i64 (atP m pid) := by
  refine Spec.up ?_
  refine Spec.of_G 20 Try.func50 (c := bodyOf Try.f50) (by kernel_rfl) (by kernel_rfl) (Nat.le_of_ble_eq_true rfl) fun W F => ?_
  refine G_run (kc := false) (ss := []) (Cs := []) trivial hmT 600 ?_
  rw [at_start]
  refine G_loopAt (ι := Nat) [] (bodyOf Try.f50) [1, 0, 1, 0] 20 (fun i => [(0, .vec 0 ao m.length cap), (1, .int .i64 pid), (5, .int .i64 (i : Int))]) (fun _ => [⟨.sl ao cap, .vecL 88 2 encPr m zPr⟩]) (fun i => i ≤ m.length ∧ atP m pid = fIdx (fun x : Int × ByteArray => x.1 == pid) (m.drop i) i) (fun i => m.length - i) 0 (by kernel_rfl) (fun J => by kernel_rfl) ⟨Nat.zero_le _, rfl⟩ rfl ⟨rfl, rfl, rfl, trivial⟩ (fun w hw => hw) ?_
  rintro i ⟨hi, hv⟩ u
  try dsimp only at hi hv ⊢
  simp only [List.nil_append, List.cons_append]
  refine G_run (kc := false) (ss := []) (Cs := []) trivial hmT 900 ?_
  rw [at_body]
  cases hlt : decide ((i : Int) < (m.length : Int)) with
  | false =>
    simp only [decide_eq_false_iff_not] at hlt
    rw [List.drop_of_length_le (by omega)] at hv
    exact ⟨_, .int .i64 (-1), fun W F w hr => hr, rfl, rfl, by rw [hv]; rfl⟩
  | true =>
    simp only [decide_eq_true_eq] at hlt
    rw [fIdx_drop _ zPr _ _ (by omega)] at hv
    have w1 : IntKind.wrap .i64 ((i : Int) + 1) = ((i + 1 : Nat) : Int) := IntWalk.i64_in _ (by omega)
    rw [Int.toNat_natCast]
    refine ⟨⟨rfl, rfl, rfl, by omega, by omega⟩, ⟨rfl, rfl, rfl, by omega⟩, ?_⟩
    show (match (m.getD i zPr).1 == pid with | true => _ | false => _)
    cases hc : (m.getD i zPr).1 == pid with
    | true =>
      rw [hc] at hv
      exact ⟨_, .int .i64 (i : Int), fun W F w hr => hr, rfl, rfl, by rw [hv]⟩
    | false =>
      rw [hc] at hv
      exact G_back (i + 1) ⟨by omega, hv⟩ (by omega) rfl ⟨rfl, rfl, congrArg (Value.int .i64) w1, trivial⟩ (fun w hw => hw)
theorem atC_ok : CtrOk Try.prog 50 atC := by
  intro args hs N h
  unfold atC at h
  split at h
  case h_2 => exact h.elim
  rename_i l ao n cap pid
  obtain ⟨m, hl, ⟨rfl, hm⟩, h⟩ := h
  refine Spec.at (hp := [⟨.sl ao cap, .vecL 88 2 encPr m zPr⟩]) (args' := [.vec 0 ao m.length cap, .int .i64 pid]) (Post' := fun h' r => h' = [⟨.sl ao cap, .vecL 88 2 encPr m zPr⟩] ∧ r = .int .i64 (atP m pid)) [l] (by simp [distinct]) (by
    have hl' : nth hs l = some ⟨.sl ao cap, .vecL 88 2 encPr m zPr⟩ := hl
    simp [pickE, hl']) (at_spec m ao cap pid hm) rfl ?_
  rintro h' r ⟨rfl, rfl⟩
  refine ⟨Nat.le_refl _, _, rfl, ?_⟩
  have e0 : setN hs l ⟨.sl ao cap, .vecL 88 2 encPr m zPr⟩ = hs := setN_selfT hl
  simpa [putBack, appE_eq, e0] using h
theorem without_spec (m : PRow) (ao : Option Addr) (cap : Nat) (i : Nat) (hm : m.length ≤ 1000000) (hi : i < m.length) : Spec Try.prog 52 [⟨.sl ao cap, .vecL 88 2 encPr m zPr⟩] [.vec 0 ao m.length cap, .int .i64 (i : Int)] fun h' r => ∃ ao' cap', h' = [⟨.sl ao cap, .vecL 88 2 encPr m zPr⟩, ⟨.sl ao' cap', .vecL 88 2 encPr (outP m i) zPr⟩] ∧ r = .vec 1 ao' (outP m i).length cap' := by
  refine Spec.up ?_
  refine Spec.of_G 14 Try.func52 (c := bodyOf Try.f52) (by kernel_rfl) (by kernel_rfl) (Nat.le_of_ble_eq_true rfl) fun W F => ?_
  refine G_vec (l := 0) rfl fun hcap _ => ?_
  refine G_run (kc := false) (ss := []) (Cs := []) trivial hmT 900 ?_
  rw [wo_run]
  have w1 : IntKind.wrap .i64 ((i : Int) + 1) = ((i + 1 : Nat) : Int) := IntWalk.i64_in _ (by omega)
  rw [w1, Int.toNat_natCast, Int.toNat_natCast]
  have hdr : (m.drop (i + 1)).take (m.length - (i + 1)) = m.drop (i + 1) := List.take_of_length_le (by simp)
  have hL2 : (outP m i).length = i - 0 + (m.length - (i + 1)) := by unfold outP; simp; omega
  have hO : (m.drop 0).take (i - 0) ++ (m.drop (i + 1)).take (m.length - (i + 1)) = outP m i := by rw [hdr]; rfl
  have fin : ∀ (ao2 : Option Addr) (cap2 : Nat), up (fun h' r => ∃ ao' cap', h' = [⟨.sl ao cap, .vecL 88 2 encPr m zPr⟩, ⟨.sl ao' cap', .vecL 88 2 encPr (outP m i) zPr⟩] ∧ r = .vec 1 ao' (outP m i).length cap') [⟨.sl ao cap, .vecL 88 2 encPr m zPr⟩, ⟨.sl ao2 cap2, .vecL 88 2 encPr ((m.drop 0).take (i - 0) ++ (m.drop (i + 1)).take (m.length - (i + 1))) zPr⟩] (.vec 1 ao2 (i - 0 + (m.length - (i + 1))) cap2) := fun ao2 cap2 => by
    rw [hO, ← hL2]
    exact ⟨_, _, fun W F w hr => hr, rfl, ao2, cap2, rfl, rfl⟩
  repeat' first
    | exact rfl
    | exact fin _ _
    | (refine ⟨(m.drop (i + 1)).take (m.length - (i + 1)), ?_, rfl, fun ao2 cap2 _ => ?_⟩)
    | (refine fun y => rfl)
    | apply And.intro
    | (show _ ≤ _; omega)
    | (show _ < _; omega)
    | (refine fun ao2 cap2 _ => ?_)
    | (simp; done)
    | (simp; omega)
    | fail
theorem putAt_le (m : PRow) (pid : Int) : putAt m pid ≤ m.length := by
  unfold putAt
  exact (List.takeWhile_prefix _).length_le
theorem putAt_drop (pid : Int) : ∀ (m : PRow) (i : Nat), i ≤ m.length → (∀ x ∈ m.take i, x.1 < pid) → (i < m.length → ∀ h : i < m.length, ¬ m[i].1 < pid) → putAt m pid = i
  | [], i, h, _, _ => by
    have : i = 0 := by simpa using h
    subst this; rfl
  | x :: m, 0, _, _, h2 => by
    have := h2 (by simp) (by simp)
    simp only [List.getElem_cons_zero] at this
    unfold putAt
    rw [List.takeWhile_cons, if_neg (by simpa using this)]
    rfl
  | x :: m, i + 1, h, h1, h2 => by
    have hx : x.1 < pid := h1 x (by simp)
    have ih := putAt_drop pid m i (by simpa using h) (fun y hy => h1 y (by simp [hy])) (fun hlt h' => by
      have := h2 (by simpa using hlt) (by simpa using hlt)
      simpa using this)
    unfold putAt at ih ⊢
    rw [List.takeWhile_cons, if_pos (by simpa using hx), List.length_cons, ih]
theorem put_spec (m : PRow) (ao : Option Addr) (cap : Nat) (pid : Int) (n : ByteArray) (hm : m.length ≤ 1000000) : Spec Try.prog 51 [⟨.sl ao cap, .vecL 88 2 encPr m zPr⟩] [.vec 0 ao m.length cap, .agg [.int .i64 pid, .str n]] fun h' r => ∃ ao' cap', h' = [⟨.sl ao cap, .vecL 88 2 encPr m zPr⟩, ⟨.sl ao' cap', .vecL 88 2 encPr (insP m (pid, n)) zPr⟩] ∧ r = .vec 1 ao' (insP m (pid, n)).length cap' := by
  refine Spec.up ?_
  refine Spec.of_G 35 Try.func51 (c := bodyOf Try.f51) (by kernel_rfl) (by kernel_rfl) (Nat.le_of_ble_eq_true rfl) fun W F => ?_
  refine G_run (kc := false) (ss := []) (Cs := []) trivial hmT 600 ?_
  rw [put_start]
  try refine ⟨rfl, ?_⟩
  intro bx
  refine G_loopAt (ι := Nat) [] (bodyOf Try.f51) [1, 1, 0, 0] 35 (fun i => [(0, .vec 0 ao m.length cap), (3, .ptr 1 bx 0), (5, .int .i64 (i : Int))]) (fun _ => [⟨.sl ao cap, .vecL 88 2 encPr m zPr⟩, ⟨.blk bx, .cells [.int .i64 pid, .str n] 88⟩]) (fun i => i ≤ m.length ∧ ∀ x ∈ m.take i, x.1 < pid) (fun i => m.length - i) 0 (by kernel_rfl) (fun J => by kernel_rfl) ⟨Nat.zero_le _, by simp⟩ rfl ⟨rfl, rfl, rfl, trivial⟩ (fun w hw => hw) ?_
  rintro i ⟨hi, hv⟩ u
  try dsimp only at hi hv ⊢
  simp only [List.nil_append, List.cons_append]
  refine G_vec (l := 0) rfl fun hcap _ => ?_
  refine G_run (kc := false) (ss := []) (Cs := []) trivial hmT 900 ?_
  rw [put_body]
  have w1 : IntKind.wrap .i64 ((i : Int) + 1) = ((i + 1 : Nat) : Int) := IntWalk.i64_in _ (by omega)
  rw [Int.toNat_natCast]
  have hdr : (m.drop i).take (m.length - i) = m.drop i := List.take_of_length_le (by simp)
  have ends : putAt m pid = i → ∀ (ao2 : Option Addr) (cap2 : Nat) (e3 : Ent), up (fun h' r => ∃ ao' cap', h' = [⟨.sl ao cap, .vecL 88 2 encPr m zPr⟩, ⟨.sl ao' cap', .vecL 88 2 encPr (insP m (pid, n)) zPr⟩] ∧ r = .vec 1 ao' (insP m (pid, n)).length cap') [⟨.sl ao cap, .vecL 88 2 encPr m zPr⟩, ⟨.blk bx, .cells [.int .i64 pid, .str n] 88⟩, ⟨.sl ao2 cap2, .vecL 88 2 encPr ((m.drop 0).take (i - 0) ++ [(pid, n)] ++ (m.drop i).take (m.length - i)) zPr⟩, e3] (.vec 2 ao2 (i - 0 + 1 + (m.length - i)) cap2) := fun hp ao2 cap2 e3 => by
    have hO : (m.drop 0).take (i - 0) ++ [(pid, n)] ++ (m.drop i).take (m.length - i) = insP m (pid, n) := by
      unfold insP
      rw [hp, hdr]
      simp
    have hL : (insP m (pid, n)).length = i - 0 + 1 + (m.length - i) := by unfold insP; rw [hp]; simp; omega
    rw [hO, ← hL]
    refine ⟨_, .vec 1 ao2 (insP m (pid, n)).length cap2, fun W F w hr => ?_, rfl, ao2, cap2, rfl, rfl⟩
    exact Rep.pick (π := [0, 2]) (by decide) rfl hr
  cases hlt : decide ((i : Int) < (m.length : Int)) with
  | true =>
    simp only [decide_eq_true_eq] at hlt
    have hi2 : i < m.length := by omega
    show _ ∧ _ ∧ _ ∧ (match decide ((m.getD i zPr).1 < pid) with | true => _ | false => _)
    rw [getD_ltP _ _ _ hi2]
    refine ⟨⟨rfl, rfl, rfl, by omega, by omega⟩, ⟨rfl, rfl, rfl, by omega⟩, rfl, ?_⟩
    cases hc : decide (m[i].1 < pid) with
    | true =>
      simp only [decide_eq_true_eq] at hc
      refine G_back (i + 1) ⟨by omega, fun x hx => ?_⟩ (by omega) rfl ⟨rfl, rfl, congrArg (Value.int .i64) w1, trivial⟩ (fun w hw => hw)
      rw [List.take_succ_eq_append_getElem hi2] at hx
      rcases List.mem_append.1 hx with hx | hx
      · exact hv x hx
      · rw [List.mem_singleton.1 hx]; exact hc
    | false =>
      simp only [decide_eq_false_iff_not] at hc
      have hp := ends (putAt_drop pid m i hi hv fun _ _ => hc)
      repeat' first
        | exact rfl
        | exact hp _ _ _
        | exact trivial
        | (refine ⟨[(pid, n)], rfl, rfl, fun ao2 cap2 _ => ?_⟩)
        | (refine ⟨(m.drop i).take (m.length - i), ?_, rfl, fun ao2 cap2 _ => ?_⟩)
        | (refine fun y => rfl)
        | apply And.intro
        | (show _ ≤ _; omega)
        | (show _ < _; omega)
        | (refine fun ao2 cap2 _ => ?_)
        | (refine fun bq => ?_)
        | (simp; done)
        | (simp; omega)
        | fail
  | false =>
    simp only [decide_eq_false_iff_not] at hlt
    have hp := ends (putAt_drop pid m i hi hv fun h => absurd h (by omega))
    repeat' first
      | exact rfl
      | exact hp _ _ _
      | exact trivial
      | (refine ⟨[(pid, n)], rfl, rfl, fun ao2 cap2 _ => ?_⟩)
      | (refine ⟨(m.drop i).take (m.length - i), ?_, rfl, fun ao2 cap2 _ => ?_⟩)
      | (refine fun y => rfl)
      | apply And.intro
      | (show _ ≤ _; omega)
      | (show _ < _; omega)
      | (refine fun ao2 cap2 _ => ?_)
      | (refine fun bq => ?_)
      | (simp; done)
      | (simp; omega)
      | fail
theorem pidsP_take (m : PRow) (u : ByteArray) (i : Nat) (h : i < m.length) : pidsP (m.take (i + 1)) u = pidsP (m.take i) u ++ if sEq m[i].2 u then [m[i].1] else [] := by
  unfold pidsP
  rw [List.take_succ_eq_append_getElem h, List.filter_append, List.map_append]
  congr 1
  cases hq : sEq m[i].2 u <;> simp [List.filter_cons, hq]
theorem pidsP_len (m : PRow) (u : ByteArray) : (pidsP m u).length ≤ m.length := by
  unfold pidsP
  rw [List.length_map]
  exact List.length_filter_le _ _
theorem pids_spec (m : PRow) (ao : Option Addr) (cap : Nat) (n : ByteArray) (hm : m.length ≤ 1000000) : Spec Try.prog 54 [⟨.sl ao cap, .vecL 88 2 encPr m zPr⟩] [.vec 0 ao m.length cap, .str n] fun h' r => ∃ ao' cap', h' = [⟨.sl ao cap, .vecL 88 2 encPr m zPr⟩, ⟨.sl ao' cap', .vecL 3 1 encI1 (pidsP m n) 0⟩] ∧ r = .vec 1 ao' (pidsP m n).length cap' := by
  refine Spec.up ?_
  refine Spec.of_G 29 Try.func54 (c := bodyOf Try.f54) (by kernel_rfl) (by kernel_rfl) (Nat.le_of_ble_eq_true rfl) fun W F => ?_
  refine G_run (kc := false) (ss := []) (Cs := []) trivial hmT 600 ?_
  rw [pi_start]
  refine G_loopAt (ι := Nat × Option Addr × Nat × List Int) [] (bodyOf Try.f54) [1, 1, 0, 1, 0] 29 (fun x => [(0, .vec 0 ao m.length cap), (1, .str n), (5, .vec 1 x.2.1 x.2.2.2.length x.2.2.1), (6, .int .i64 (x.1 : Int))]) (fun x => [⟨.sl ao cap, .vecL 88 2 encPr m zPr⟩, ⟨.sl x.2.1 x.2.2.1, .vecL 3 1 encI1 x.2.2.2 0⟩]) (fun x => x.1 ≤ m.length ∧ x.2.2.2 = pidsP (m.take x.1) n) (fun x => m.length - x.1) (0, none, 0, []) (by kernel_rfl) (fun J => by kernel_rfl) ⟨Nat.zero_le _, rfl⟩ rfl ⟨rfl, rfl, rfl, rfl, trivial⟩ (fun w hw => Rep.nilvec 3 (sz := 1) (enc := encI1) 0 (fun _ => rfl) hw) ?_
  rintro ⟨i, ag, cg, got⟩ ⟨hi, hv⟩ u
  dsimp only at hi hv
  try dsimp only
  simp only [List.nil_append, List.cons_append]
  refine G_run (kc := false) (ss := []) (Cs := []) trivial hmT 900 ?_
  rw [pi_body]
  have w1 : IntKind.wrap .i64 ((i : Int) + 1) = ((i + 1 : Nat) : Int) := IntWalk.i64_in _ (by omega)
  have hgl : got.length ≤ 1000000 := by
    have h1 := pidsP_len (m.take i) n
    rw [hv]
    simp at h1
    omega
  rw [Int.toNat_natCast]
  cases hlt : decide ((i : Int) < (m.length : Int)) with
  | false =>
    simp only [decide_eq_false_iff_not] at hlt
    rw [List.take_of_length_le (by omega)] at hv
    rw [hv]
    exact ⟨_, _, fun W F w hr => hr, rfl, ag, cg, rfl, rfl⟩
  | true =>
    simp only [decide_eq_true_eq] at hlt
    have hi2 : i < m.length := by omega
    have hg : ∀ d, m.getD i d = m[i] := fun d => getD_ltP _ _ _ hi2
    have hnx := pidsP_take m n i hi2
    rw [hg]
    have hback : ∀ (tm : List SV) (a : Option Addr) (c : Nat) (l : List Int) (x : List Ent), l = pidsP (m.take (i + 1)) n → lenN tm = 29 → liveOk tm [(0, .vec 0 ao m.length cap), (1, .str n), (5, .vec 1 a l.length c), (6, .int .i64 ((i + 1 : Nat) : Int))] → G Try.prog (endQ Try.prog Try.f54 W F (up fun h' r => ∃ ao' cap', h' = [⟨.sl ao cap, .vecL 88 2 encPr m zPr⟩, ⟨.sl ao' cap', .vecL 3 1 encI1 (pidsP m n) 0⟩] ∧ r = .vec 1 ao' (pidsP m n).length cap')) W F (.loop (Back W F 29 (fun x : Nat × Option Addr × Nat × List Int => [(0, .vec 0 ao m.length cap), (1, .str n), (5, .vec 1 x.2.1 x.2.2.2.length x.2.2.1), (6, .int .i64 (x.1 : Int))]) (fun x => [⟨.sl ao cap, .vecL 88 2 encPr m zPr⟩, ⟨.sl x.2.1 x.2.2.1, .vecL 3 1 encI1 x.2.2.2 0⟩]) (fun x => x.1 ≤ m.length ∧ x.2.2.2 = pidsP (m.take x.1) n) (fun x => m.length - x.1) (m.length - i)) :: .blk 0 :: frm [] (bodyOf Try.f54) [1, 1, 1] []) ⟨tm, [⟨.sl ao cap, .vecL 88 2 encPr m zPr⟩, ⟨.sl a c, .vecL 3 1 encI1 l 0⟩] ++ x⟩ := fun tm a c l x hl g1 g2 =>
      G_back (i + 1, a, c, l) ⟨by dsimp only; omega, hl⟩ (by dsimp only; omega) g1 g2 (fun w hw => Rep.dropR hw)
    cases hc : sEq m[i].2 n with
    | true =>
      have hl : got ++ [m[i].1] = pidsP (m.take (i + 1)) n := by rw [hnx, hc, hv]; rfl
      repeat' first
        | exact rfl
        | exact hi2
        | (refine ⟨[m[i].1], rfl, rfl, fun ao2 cap2 _ => ?_⟩)
        | exact hback _ _ _ _ [_] hl rfl ⟨rfl, rfl, by rw [List.length_append]; rfl, congrArg (Value.int .i64) w1, trivial⟩
        | apply And.intro
        | (refine fun b1 => ?_)
        | (show _ ≤ _; omega)
        | (show _ < _; omega)
        | fail
    | false =>
      have hl : got = pidsP (m.take (i + 1)) n := by rw [hnx, hc, hv]; simp
      repeat' first
        | exact rfl
        | exact hi2
        | exact hback _ _ _ _ [] hl rfl ⟨rfl, rfl, rfl, congrArg (Value.int .i64) w1, trivial⟩
        | apply And.intro
        | (show _ ≤ _; omega)
        | (show _ < _; omega)
        | fail
theorem withoutC_ok : CtrOk Try.prog 52 withoutC := by
  intro args hs N h
  unfold withoutC at h
  split at h
  case h_2 => exact h.elim
  rename_i l ao n cap j
  obtain ⟨m, i, hl, ⟨rfl, hm, rfl, hi⟩, h⟩ := h
  refine Spec.at (hp := [⟨.sl ao cap, .vecL 88 2 encPr m zPr⟩]) (args' := [.vec 0 ao m.length cap, .int .i64 (i : Int)]) (Post' := fun h' r => ∃ ao' cap', h' = [⟨.sl ao cap, .vecL 88 2 encPr m zPr⟩, ⟨.sl ao' cap', .vecL 88 2 encPr (outP m i) zPr⟩] ∧ r = .vec 1 ao' (outP m i).length cap') [l] (by simp [distinct]) (by
    have hl' : nth hs l = some ⟨.sl ao cap, .vecL 88 2 encPr m zPr⟩ := hl
    simp [pickE, hl']) (without_spec m ao cap i hm hi) rfl ?_
  rintro h' r ⟨ao', cap', rfl, rfl⟩
  refine ⟨Nat.le_of_ble_eq_true rfl, .vec (lenN hs) ao' (outP m i).length cap', rfl, ?_⟩
  have e0 : setN hs l ⟨.sl ao cap, .vecL 88 2 encPr m zPr⟩ = hs := setN_selfT hl
  simpa [putBack, appE_eq, snoc_eq, e0, vecP] using h ao' cap'
theorem putC_ok : CtrOk Try.prog 51 putC := by
  intro args hs N h
  unfold putC at h
  split at h
  case h_2 => exact h.elim
  rename_i l ao n cap pid u
  obtain ⟨m, hl, ⟨rfl, hm⟩, h⟩ := h
  refine Spec.at (hp := [⟨.sl ao cap, .vecL 88 2 encPr m zPr⟩]) (args' := [.vec 0 ao m.length cap, .agg [.int .i64 pid, .str u]]) (Post' := fun h' r => ∃ ao' cap', h' = [⟨.sl ao cap, .vecL 88 2 encPr m zPr⟩, ⟨.sl ao' cap', .vecL 88 2 encPr (insP m (pid, u)) zPr⟩] ∧ r = .vec 1 ao' (insP m (pid, u)).length cap') [l] (by simp [distinct]) (by
    have hl' : nth hs l = some ⟨.sl ao cap, .vecL 88 2 encPr m zPr⟩ := hl
    simp [pickE, hl']) (put_spec m ao cap pid u hm) rfl ?_
  rintro h' r ⟨ao', cap', rfl, rfl⟩
  refine ⟨Nat.le_of_ble_eq_true rfl, .vec (lenN hs) ao' (insP m (pid, u)).length cap', rfl, ?_⟩
  have e0 : setN hs l ⟨.sl ao cap, .vecL 88 2 encPr m zPr⟩ = hs := setN_selfT hl
  simpa [putBack, appE_eq, snoc_eq, e0, vecP] using h ao' cap'
theorem pidsPC_ok : CtrOk Try.prog 54 pidsPC := by
  intro args hs N h
  unfold pidsPC at h
  split at h
  case h_2 => exact h.elim
  rename_i l ao n cap u
  obtain ⟨m, hl, ⟨rfl, hm⟩, h⟩ := h
  refine Spec.at (hp := [⟨.sl ao cap, .vecL 88 2 encPr m zPr⟩]) (args' := [.vec 0 ao m.length cap, .str u]) (Post' := fun h' r => ∃ ao' cap', h' = [⟨.sl ao cap, .vecL 88 2 encPr m zPr⟩, ⟨.sl ao' cap', .vecL 3 1 encI1 (pidsP m u) 0⟩] ∧ r = .vec 1 ao' (pidsP m u).length cap') [l] (by simp [distinct]) (by
    have hl' : nth hs l = some ⟨.sl ao cap, .vecL 88 2 encPr m zPr⟩ := hl
    simp [pickE, hl']) (pids_spec m ao cap u hm) rfl ?_
  rintro h' r ⟨ao', cap', rfl, rfl⟩
  refine ⟨Nat.le_of_ble_eq_true rfl, .vec (lenN hs) ao' (pidsP m u).length cap', rfl, ?_⟩
  have e0 : setN hs l ⟨.sl ao cap, .vecL 88 2 encPr m zPr⟩ = hs := setN_selfT hl
  simpa [putBack, appE_eq, snoc_eq, e0, vecP] using h ao' cap'
end Go.Proofs.Ytihajdkipkfiiaa

