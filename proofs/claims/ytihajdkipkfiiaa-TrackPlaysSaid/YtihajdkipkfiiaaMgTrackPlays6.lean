import Derived.Shelf.SlIterI.Nil
import Derived.Shelf.SlIter.Nil
import Derived.Shelf.SortM.Plain
import Derived.Shelf.SortM.SortNone
import Derived.Ground.GgzProg
import Derived.Ground.SlgmProg
import Derived.Shelf.SlGeneric
import Derived.Test.YtihajdkipkfiiaaProg
import Derived.Test.YtihajdkipkfiiaaMgTrackPlays5
import Derived.Test.YtihajdkipkfiiaaMgTrackPlays4
/- YtihajdkipkfiiaaLayP -/
/- Layings of the kit's contracts for slices.Sorted and maps.Keys at this program, in plain words. -/
namespace Go.Proofs.Ytihajdkipkfiiaa
open Go.Shelf
def keysP_ren : Go.Shelf.Ren := ⟨fun | 7 => 98 | 10 => 111 | n => n, fun | 23 => 128 | 26 => 3 | 3 => 125 | 28 => 61 | 0 => 0 | 27 => 60 | 33 => 30 | 4 => 4 | n => n, fun | n => n⟩
theorem keysP : Go.Proofs.SlLaysZI.n7 Try.prog keysP_ren := {
  mixed := by kernel_rfl
  f7 := ⟨Try.f98.name, by decide, Try.func98.trans (congrArg some (by kernel_rfl))⟩
  f10 := ⟨Try.f111.name, by decide, Try.func111.trans (congrArg some (by kernel_rfl))⟩
  t0 := Try.underlying0
  a0 := Try.isAgg0
  z0 := Try.sizeOf0
  v0 := Try.zeroValue0
  t4 := Try.underlying4
  a4 := Try.isAgg4
  z4 := Try.sizeOf4
  v4 := Try.zeroValue4
  t23 := Try.underlying128
  a23 := Try.isAgg128
  z23 := Try.sizeOf128
  v23 := Try.zeroValue128
  t26 := Try.underlying3
  a26 := Try.isAgg3
  z26 := Try.sizeOf3
  v26 := Try.zeroValue3
  t27 := Try.underlying60
  a27 := Try.isAgg60
  z27 := Try.sizeOf60
  v27 := Try.zeroValue60
  t28 := Try.underlying61
  a28 := Try.isAgg61
  z28 := Try.sizeOf61
  v28 := Try.zeroValue61
  t33 := Try.underlying30
  a33 := Try.isAgg30
  z33 := Try.sizeOf30
  v33 := Try.zeroValue30 }
def sortedI_ren : Go.Shelf.Ren := ⟨fun | 6 => 80 | 8 => 82 | 9 => 100 | 11 => 102 | 13 => 113 | 12 => 112 | 23 => 126 | 24 => 127 | 14 => 117 | 15 => 118 | 16 => 119 | 17 => 120 | 18 => 121 | 19 => 122 | 20 => 123 | 21 => 124 | 22 => 125 | 25 => 137 | 26 => 138 | 27 => 139 | 28 => 140 | 29 => 141 | 30 => 142 | 31 => 147 | n => n, fun | 26 => 3 | 28 => 61 | 24 => 32 | 0 => 0 | 3 => 3 | 37 => 173 | 48 => 185 | 50 => 187 | 4 => 4 | 40 => 178 | 39 => 177 | 45 => 157 | 5 => 5 | 9 => 9 | 51 => 194 | 55 => 198 | 57 => 202 | 58 => 69 | 33 => 30 | n => n, fun | n => n⟩
theorem sortedI : Go.Proofs.SlLaysZI.n6 Try.prog sortedI_ren := {
  mixed := by kernel_rfl
  f6 := ⟨Try.f80.name, by decide, Try.func80.trans (congrArg some (by kernel_rfl))⟩
  f8 := ⟨Try.f82.name, by decide, Try.func82.trans (congrArg some (by kernel_rfl))⟩
  f11 := ⟨Try.f102.name, by decide, Try.func102.trans (congrArg some (by kernel_rfl))⟩
  t0 := Try.underlying0
  a0 := Try.isAgg0
  z0 := Try.sizeOf0
  v0 := Try.zeroValue0
  t24 := Try.underlying32
  a24 := Try.isAgg32
  z24 := Try.sizeOf32
  v24 := Try.zeroValue32
  t26 := Try.underlying3
  a26 := Try.isAgg3
  z26 := Try.sizeOf3
  v26 := Try.zeroValue3
  t28 := Try.underlying61
  a28 := Try.isAgg61
  z28 := Try.sizeOf61
  v28 := Try.zeroValue61
  i26 := by kernel_rfl }
def sortI_lay_ren : Go.Shelf.Ren := ⟨fun | 5 => 100 | 8 => 113 | 7 => 112 | 19 => 126 | 20 => 127 | 10 => 117 | 11 => 118 | 12 => 119 | 13 => 120 | 14 => 121 | 15 => 122 | 16 => 123 | 17 => 124 | 18 => 125 | 30 => 137 | 31 => 138 | 32 => 139 | 33 => 140 | 34 => 141 | 35 => 142 | 40 => 147 | n => n, fun | 23 => 32 | 25 => 3 | 3 => 3 | 32 => 173 | 22 => 32 | 0 => 0 | 44 => 185 | 46 => 187 | 4 => 4 | 36 => 178 | 35 => 177 | 41 => 157 | 5 => 5 | 9 => 9 | 53 => 194 | 57 => 198 | 63 => 202 | 64 => 69 | n => n, fun | n => n⟩
theorem sortI_lay : Go.Proofs.SlLaysM.n5 Try.prog sortI_lay_ren := {
  mixed := by kernel_rfl
  f5 := ⟨Try.f100.name, by decide, Try.func100.trans (congrArg some (by kernel_rfl))⟩
  f7 := ⟨Try.f112.name, by decide, Try.func112.trans (congrArg some (by kernel_rfl))⟩
  f8 := Try.func113.trans (congrArg some (by kernel_rfl))
  f10 := ⟨Try.f117.name, by decide, Try.func117.trans (congrArg some (by kernel_rfl))⟩
  f11 := ⟨Try.f118.name, by decide, Try.func118.trans (congrArg some (by kernel_rfl))⟩
  f12 := ⟨Try.f119.name, by decide, Try.func119.trans (congrArg some (by kernel_rfl))⟩
  f13 := ⟨Try.f120.name, by decide, Try.func120.trans (congrArg some (by kernel_rfl))⟩
  f14 := ⟨Try.f121.name, by decide, Try.func121.trans (congrArg some (by kernel_rfl))⟩
  f15 := ⟨Try.f122.name, by decide, Try.func122.trans (congrArg some (by kernel_rfl))⟩
  f16 := ⟨Try.f123.name, by decide, Try.func123.trans (congrArg some (by kernel_rfl))⟩
  f17 := ⟨Try.f124.name, by decide, Try.func124.trans (congrArg some (by kernel_rfl))⟩
  f18 := ⟨Try.f125.name, by decide, Try.func125.trans (congrArg some (by kernel_rfl))⟩
  f19 := Try.func126.trans (congrArg some (by kernel_rfl))
  f20 := Try.func127.trans (congrArg some (by kernel_rfl))
  f30 := ⟨Try.f137.name, by decide, Try.func137.trans (congrArg some (by kernel_rfl))⟩
  f31 := Try.func138.trans (congrArg some (by kernel_rfl))
  f32 := Try.func139.trans (congrArg some (by kernel_rfl))
  f33 := ⟨Try.f140.name, by decide, Try.func140.trans (congrArg some (by kernel_rfl))⟩
  f34 := ⟨Try.f141.name, by decide, Try.func141.trans (congrArg some (by kernel_rfl))⟩
  f35 := ⟨Try.f142.name, by decide, Try.func142.trans (congrArg some (by kernel_rfl))⟩
  f40 := ⟨Try.f147.name, by decide, Try.func147.trans (congrArg some (by kernel_rfl))⟩
  t0 := Try.underlying0
  a0 := Try.isAgg0
  z0 := Try.sizeOf0
  v0 := Try.zeroValue0
  t3 := Try.underlying3
  a3 := Try.isAgg3
  z3 := Try.sizeOf3
  v3 := Try.zeroValue3
  t4 := Try.underlying4
  a4 := Try.isAgg4
  z4 := Try.sizeOf4
  v4 := Try.zeroValue4
  t5 := Try.underlying5
  a5 := Try.isAgg5
  z5 := Try.sizeOf5
  v5 := Try.zeroValue5
  t9 := Try.underlying9
  a9 := Try.isAgg9
  z9 := Try.sizeOf9
  v9 := Try.zeroValue9
  t22 := Try.underlying32
  a22 := Try.isAgg32
  z22 := Try.sizeOf32
  v22 := Try.zeroValue32
  t23 := Try.underlying32
  a23 := Try.isAgg32
  z23 := Try.sizeOf32
  v23 := Try.zeroValue32
  t25 := Try.underlying3
  a25 := Try.isAgg3
  z25 := Try.sizeOf3
  v25 := Try.zeroValue3
  t32 := Try.underlying173
  a32 := Try.isAgg173
  z32 := Try.sizeOf173
  v32 := Try.zeroValue173
  t35 := Try.underlying177
  a35 := Try.isAgg177
  z35 := Try.sizeOf177
  v35 := Try.zeroValue177
  t36 := Try.underlying178
  a36 := Try.isAgg178
  z36 := Try.sizeOf178
  v36 := Try.zeroValue178
  t41 := Try.underlying157
  a41 := Try.isAgg157
  z41 := Try.sizeOf157
  v41 := Try.zeroValue157
  t44 := Try.underlying185
  a44 := Try.isAgg185
  z44 := Try.sizeOf185
  v44 := Try.zeroValue185
  t46 := Try.underlying187
  a46 := Try.isAgg187
  z46 := Try.sizeOf187
  v46 := Try.zeroValue187
  t53 := Try.underlying194
  a53 := Try.isAgg194
  z53 := Try.sizeOf194
  v53 := Try.zeroValue194
  t57 := Try.underlying198
  a57 := Try.isAgg198
  z57 := Try.sizeOf198
  v57 := Try.zeroValue198
  t63 := Try.underlying202
  a63 := Try.isAgg202
  z63 := Try.sizeOf202
  v63 := Try.zeroValue202
  t64 := Try.underlying69
  a64 := Try.isAgg69
  z64 := Try.sizeOf69
  v64 := Try.zeroValue69 }
end Go.Proofs.Ytihajdkipkfiiaa

/- YtihajdkipkfiiaaSrt -/
/- slices.Sorted(maps.Keys(m)) at whole numbers: the keys, rising. -/
namespace Go.Proofs.Ytihajdkipkfiiaa
open Go Go.RowKit Go.Maps Go.Sort Go.Shelf
set_option linter.unusedVariables false
set_option linter.unusedSimpArgs false
set_option linter.unnecessarySimpa false

def encI1 (x : Int) : List SV := [.int .i64 x]
def keyInt : Key → Int
  | .i _ n => n
  | .s _ => 0
/-- A map's keys, rising. -/
def sortI {β : Type} (es : List (Key × β)) : List Int := (es.map fun e => keyInt e.1).mergeSort leI
/-- Are they keys of the kind? -/
def wfI {β : Type} (es : List (Key × β)) : Prop := keysOk es ∧ es.length ≤ 1000000000 ∧ ∀ e ∈ es, (Lit.int .i64 (keyInt e.1)).wf = true
/-- slices.Sorted at what maps.Keys handed back. -/
def srtIC (fI T : Nat) : Ctr := fun args hs N => match args with
  | [.func (.func f) [] [.ptr lb b 0]] => f = fI ∧ match nth hs lb with
    | some ⟨.blk b', .cells [.map lm rm] _⟩ => match nth hs lm with
      | some ⟨.blk rm', .mapL (β := β) kd enc es⟩ => (b' = b ∧ rm' = rm ∧ kd = some .i64 ∧ wfI es) ∧ ∀ ao cap, N (snoc hs ⟨.sl ao cap, .vecL T 1 encI1 (sortI es) 0⟩) (.vec (lenN hs) ao (sortI es).length cap)
      | _ => False
    | _ => False
  | _ => False

/-- The heap grows: a new block. -/
theorem H.below {W w w' : World} {L : List Ch} (h : H W w L) (hb : Below w.heap.size w w') : H W w' L :=
  ⟨h.st.trans ⟨hb.os, hb.tape, hb.output, hb.size⟩, h.nd, fun b o hm => by
    have := h.get b o hm
    rw [hb.block b (Array.getElem?_eq_some_iff.1 this).1]; exact this, h.fresh, fun b hlt => by rw [hb.block b (Nat.lt_of_lt_of_le hlt h.st.size)]; exact h.old b hlt⟩
theorem H.grow {W w w' : World} {L : List Ch} {g : Nat} {o : Obj} (h : H W w L) (hb : Below w.heap.size w w') (hg : w.heap.size ≤ g) (ho : w'.heap[g]? = some o) : H W w' ([(g, o)] :: L) := by
  have h1 := h.below hb
  refine ⟨h1.st, ?_, fun b q hm => ?_, fun b q hm => ?_, h1.old⟩
  · simp only [List.flatten_cons, List.singleton_append, List.map_cons, List.nodup_cons]
    refine ⟨fun hm => ?_, h.nd⟩
    obtain ⟨⟨b, q⟩, hm, he⟩ := List.mem_map.1 hm
    have he : b = g := he
    have := (Array.getElem?_eq_some_iff.1 (h.get b q hm)).1
    omega
  · simp only [List.flatten_cons, List.singleton_append, List.mem_cons, Prod.mk.injEq] at hm
    rcases hm with ⟨rfl, rfl⟩ | hm
    · exact ho
    · exact h1.get b q hm
  · simp only [List.flatten_cons, List.singleton_append, List.mem_cons, Prod.mk.injEq] at hm
    rcases hm with ⟨rfl, rfl⟩ | hm
    · exact Nat.le_trans h.st.size hg
    · exact h1.fresh b q hm

/-- What a map of ours is to the kit. -/
theorem owns_of {w : World} {rm : Nat} {ents : List MapEntry} {clock k : Nat} {β : Type} {enc : β → SV} {es : List (Key × β)} (hk : Try.prog.underlying k = some (.int .i64)) (hh : w.heap[rm]? = some (.map ents.toArray clock)) (hst : Stamped ents clock) (he : ents.map (fun e => (e.key, e.val)) = es.map fun e => (den e.1.sv, den (enc e.2)))
    (hks : ∀ e ∈ es, keyKind e.1 = some .i64) (hw : wfI es) : ∃ D0 : DataW Unit, w.ownsMap Try.prog k (fun _ => some (.lit (.bool true), [])) rm es.length D0 ∧ (intKeys D0).Perm (es.map fun e => keyInt e.1) ∧ Maps.size D0 = es.length := by
  have hlen : ents.length = es.length := by simpa using congrArg List.length he
  have hkey : ∀ e ∈ es, den e.1.sv = .int .i64 (keyInt e.1) := fun e hm => by
    have := hks e hm
    cases hq : e.1 with
    | i kk n => rw [hq] at this; cases this; rfl
    | s _ => rw [hq] at this; cases this
  have hmem : ∀ x ∈ ents, ∃ e ∈ es, x.key = .int .i64 (keyInt e.1) := fun x hx => by
    have : (x.key, x.val) ∈ es.map fun e => (den e.1.sv, den (enc e.2)) := by rw [← he]; exact List.mem_map.2 ⟨x, hx, rfl⟩
    obtain ⟨e, h1, h2⟩ := List.mem_map.1 this
    simp only [Prod.mk.injEq] at h2
    exact ⟨e, h1, by rw [← h2.1, hkey e h1]⟩
  have hrg : ∀ x ∈ ents, ∃ n, x.key = .int .i64 n ∧ WideElems.rd Try.prog k (fun _ => some ((.lit (.bool true) : DataW Unit), [])) x = some (.int .i64 n, .lit (.bool true)) := fun x hx => by
    obtain ⟨e, h1, h2⟩ := hmem x hx
    exact ⟨_, h2, by simp [WideElems.rd, h2, keyOf_int_mk hk (hw.2.2 e h1)]⟩
  have hkeys : ents.map (fun x => x.key) = es.map fun e => (Value.int .i64 (keyInt e.1)) := by
    have h1 := congrArg (List.map Prod.fst) he
    simp only [List.map_map, Function.comp_def] at h1
    rw [h1]
    exact List.map_congr_left fun e hm => hkey e hm
  refine ⟨_, ⟨ents.toArray, clock, hh, ⟨?_, ?_, ?_⟩, by simp [hlen], rfl⟩, ?_, ?_⟩
  · have := hw.2.1; simp [hlen, maxLen]; omega
  · refine (MapKept.stamped_iff _ _).2 ⟨by simpa using hst.2, by simpa using hst.1, ?_⟩
    have h1 : (ents.map (fun x => x.key)).Pairwise (· ≠ ·) := by
      rw [hkeys, List.pairwise_map]
      refine hw.1.imp_of_mem fun {a b} ha hb hab e => ?_
      injection e with _ e
      have h2 := hks a ha
      have h3 := hks b hb
      cases a with | mk ka va => cases b with | mk kb vb =>
      cases ka <;> cases kb <;> simp_all [keyKind, keyEq, keyInt]
    simpa [List.pairwise_map] using h1
  · intro x hx
    obtain ⟨n, _, h2⟩ := hrg x (by simpa using hx)
    exact ⟨_, h2⟩
  · show (((ents.toArray.toList.map (WideElems.rg Try.prog k _)).foldr DataW.insert []).map fun p => Go.intOf p.1).Perm _
    refine ((Go.WideShapes.sorted_perm _).map _).trans ?_
    simp only [List.map_map]
    have : ents.map ((fun p : Lit × DataW Unit => Go.intOf p.1) ∘ WideElems.rg Try.prog k (fun _ => some (.lit (.bool true), []))) = es.map fun e => keyInt e.1 := by
      have h1 : ents.map ((fun p : Lit × DataW Unit => Go.intOf p.1) ∘ WideElems.rg Try.prog k (fun _ => some (.lit (.bool true), []))) = (ents.map (fun x => x.key)).map fun v => match v with | .int _ n => n | _ => 0 := by
        rw [List.map_map]
        refine List.map_congr_left fun x hx => ?_
        obtain ⟨n, h2, h3⟩ := hrg x hx
        simp [WideElems.rg, h3, h2, Go.intOf]
      rw [h1, hkeys, List.map_map]
      rfl
    rw [this]
  · show ((ents.toArray.toList.map (WideElems.rg Try.prog k _)).foldr DataW.insert []).length = _
    rw [(Go.WideShapes.sorted_perm _).length_eq]; simp [hlen]

theorem sortsI (m : Nat) : AnyZI.SortsIn Try.prog sortedI_ren Fence.wide m :=
  ⟨fun blk off cap ss W hH hblk hsz => callsIn_wide.2 (AnyM.slices_Sort_int sortI_lay blk off cap ss W hH hblk hsz), fun p cap W => callsIn_wide.2 (AnyM.slices_Sort_int_none sortI_lay p cap W)⟩

theorem flat_one : ∀ l : List Int, flatV encI1 l = l.map encZ
  | [] => rfl
  | x :: l => by
    have := flat_one l
    unfold flatV at this ⊢
    simp only [List.flatMap_cons, List.map_cons, this]
    rfl
theorem srtI_ok {fI T : Nat} (hT : T = 3) (hg : ∃ fn, Try.prog.funcs[fI]? = some fn ∧ (fn.name == "runtime.NumGoroutine") = false ∧ ∃ c, fn.body = some c)
    (hK : ∀ (w : World) (b rm nn : Nat) (D0 : DataW Unit), b < w.heap.size → w.cell? ⟨b, 0, none⟩ = some (.map (some rm)) → w.ownsMap Try.prog 3 (fun _ => some (.lit (.bool true), [])) rm nn D0 →
      SeqGives Fence.wide 2 Try.prog fI #[.pointer (some ⟨b, 0, none⟩)] encZ (fun ss => ss.Perm (intKeys D0)) (Maps.size D0) w) : CtrOk Try.prog 80 (srtIC fI T) := by
  subst hT
  intro args hs N h
  unfold srtIC at h
  split at h
  case h_2 => exact h.elim
  rename_i f lb b
  obtain ⟨rfl, h⟩ := h
  split at h
  case h_2 => exact h.elim
  rename_i b' lm rm T' hlb
  split at h
  case h_2 => exact h.elim
  rename_i rm' β kd enc es hlm
  obtain ⟨⟨rfl, rfl, rfl, hw⟩, h⟩ := h
  intro W F w hr
  obtain ⟨fn, g1, g2, c, g3⟩ := hg
  have hcell : w.cell? ⟨b', 0, none⟩ = some (.map (some rm')) := by rw [hr.cells hlb]; rfl
  have hb : b' < w.heap.size := World.block_lt_of_cell? _ _ hcell
  obtain ⟨c0, L0, hc0, hH0, _⟩ := hr.get hlm
  obtain ⟨hks, ents, clock, rfl, hst, he⟩ := hc0
  obtain ⟨D0, o1, o2, o3⟩ := owns_of (k := 3) Try.underlying3 (hH0.heap .here) hst he hks hw
  have hseq := hK w b' rm' es.length D0 hb hcell o1
  have hlen := hw.2.1
  have cS := AnyZI.sorted_in sortedI Fence.wide 5 trivial trivial trivial trivial rfl (by omega) (sortsI _) (enters_of Try.func100 (by kernel_rfl) rfl) f #[.pointer (some ⟨b', 0, none⟩)] trivial (enters_of g1 g2 g3) _ _ (by rw [o3]; unfold maxLen; omega) (by rw [o3]; omega) _ hseq
  refine Calls.mono ((callsIn_wide (n := 5)).1 cS) ?_
  rintro e w' ⟨v, ss, rfl, hS, hrow, hnil, hbel⟩
  have hsort : ss.mergeSort leI = sortI es := mergeSort_of_perm_i (hS.trans o2)
  have hls : ss.length = (sortI es).length := by rw [← hsort, (List.mergeSort_perm ss leI).length_eq]
  have hflat : flatV encI1 (sortI es) = (sortI es).map encZ := flat_one (sortI es)
  rcases hrow.2 with ⟨rfl, h0⟩ | ⟨g, cap, cur, rfl, hge, hgb, hle, hcap, hsz, htk⟩
  · have hnl : sortI es = [] := List.eq_nil_of_length_eq_zero (by omega)
    refine ⟨_, _, h none 0, by rw [hnl]; rfl, ?_⟩
    have hr' : Rep W F hs w' := hr.move fun L hL => hL.below hbel
    rw [hnl]
    exact Rep.nilvec _ (sz := 1) (enc := encI1) 0 (fun _ => rfl) hr'
  · refine ⟨_, _, h (some ⟨g, 0, none⟩) cap, by rw [hls]; rfl, ?_⟩
    refine hr.new (c := [(g, .cells cur _ (0, 0))]) ⟨⟨by rw [hflat]; simp, by omega, .inr ⟨g, 0, cur, rfl, rfl, by omega, ?_⟩⟩, fun _ => rfl⟩ fun L hL => hL.grow hbel hge hgb
    have e1 : (sortI es).length * 1 = ss.length * 1 := by rw [hls]
    rw [List.drop_zero, hflat, e1, htk, ← hsort]
end Go.Proofs.Ytihajdkipkfiiaa

/- YtihajdkipkfiiaaTrkC -/
/- track.Track: what it holds; what its methods do. -/
namespace Go.Proofs.Ytihajdkipkfiiaa
open Go Go.RowKit
set_option linter.unusedVariables false
set_option linter.unusedSimpArgs false
set_option linter.unnecessarySimpa false
set_option maxHeartbeats 0

/-- Tracks: units by process, processes by unit. -/
structure Trk where
  (bo bp : Nat) (of : List (Key × ByteArray)) (ps : List (Key × GSet))
def encT (x : GSet) : SV := .map 3 x.1
def trkE (s : Trk) (b : Nat) : List Ent := [⟨.blk b, .cells [.map 1 s.bo, .map 2 s.bp] 140⟩, ⟨.blk s.bo, .mapL (some .i64) encO s.of⟩, ⟨.blk s.bp, .mapL none encT s.ps⟩, pk 0 (s.ps.map setE)]
def tGone (s : Trk) (pid : Int) : Trk × ByteArray × Int := match mget s.of (.i .i64 pid) with
  | none => (s, ⟨#[]⟩, 190)
  | some n => match mget s.ps (.s n) with
    | none => (s, n, 0)
    | some x => match (mdel x.2 (.i .i64 pid)).length == 0 with
      | true => ({ s with of := mdel s.of (.i .i64 pid), ps := mdel s.ps (.s n) }, n, 0)
      | false => ({ s with of := mdel s.of (.i .i64 pid), ps := mset s.ps (.s n) (x.1, mdel x.2 (.i .i64 pid)) }, n, 0)
/-- A process of no unit is put to one. -/
def tPut (s : Trk) (unit : ByteArray) (pid : Int) (nb : Nat) : Trk := match mget s.ps (.s unit) with
  | none => { s with of := mset s.of (.i .i64 pid) unit, ps := mset s.ps (.s unit) (nb, [(.i .i64 pid, ())]) }
  | some x => { s with of := mset s.of (.i .i64 pid) unit, ps := mset s.ps (.s unit) (x.1, mset x.2 (.i .i64 pid) ()) }
def tAdd (s : Trk) (unit : ByteArray) (pid : Int) (nb : Nat) : Trk × Int := match (mget s.of (.i .i64 pid)).isSome || sEq unit ⟨#[]⟩ || decide (pid < 2) with
  | true => (s, 190)
  | false => (tPut s unit pid nb, 0)
def tFork (s : Trk) (parent child : Int) (nb : Nat) : Trk × Int := match mget s.of (.i .i64 parent) with
  | none => (s, 190)
  | some n => tAdd s n child nb
/-- What is noted of a process's unit stands there. -/
def tOk (s : Trk) (pid : Int) : Prop := ∀ n, mget s.of (.i .i64 pid) = some n → ∃ x, mget s.ps (.s n) = some x
def tgoneM (s : Trk) (args : List SV) (N : Trk → SV → Prop) : Prop := match args with
  | [.int .i64 pid] => tOk s pid ∧ N (tGone s pid).1 (.tuple [.str (tGone s pid).2.1, .int .i64 (tGone s pid).2.2])
  | _ => False
def tputM (s : Trk) (args : List SV) (N : Trk → SV → Prop) : Prop := match args with
  | [.str unit, .int .i64 pid] => tOk s pid ∧ ∀ nb, N (tPut (tGone s pid).1 unit pid nb) (.tuple [])
  | _ => False
def taddM (s : Trk) (args : List SV) (N : Trk → SV → Prop) : Prop := match args with
  | [.str unit, .int .i64 pid] => ∀ nb, N (tAdd s unit pid nb).1 (.int .i64 (tAdd s unit pid nb).2)
  | _ => False
def tforkM (s : Trk) (args : List SV) (N : Trk → SV → Prop) : Prop := match args with
  | [.int .i64 parent, .int .i64 child] => ∀ nb, N (tFork s parent child nb).1 (.int .i64 (tFork s parent child nb).2)
  | _ => False
def tunitM (s : Trk) (args : List SV) (N : Trk → SV → Prop) : Prop := match args with
  | [.int .i64 pid] => N s (.tuple [.str ((mget s.of (.i .i64 pid)).getD ⟨#[]⟩), .bool (mget s.of (.i .i64 pid)).isSome])
  | _ => False
def newTC : Ctr := fun args hs N => match args with
  | [] => ∀ b bo bp, N (snoc hs (pkA b trkE ⟨bo, bp, [], []⟩)) (.ptr (lenN hs) b 0)
  | _ => False
/-- A unit's processes, rising. -/
def pidsL (s : Trk) (unit : ByteArray) : List Int := match mget s.ps (.s unit) with
  | some x => sortI x.2
  | none => []
def pidsOk (s : Trk) (unit : ByteArray) : Prop := ∀ x, mget s.ps (.s unit) = some x → wfI x.2
/-- Pids: a function over a row of its own. -/
def pidsC : Ctr := fun args hs N => match args with
  | [.ptr l b 0, .str unit] => match nth hs l with
    | some ⟨.blk b', .adt (σ := σ') p s⟩ => b' = b ∧ ∃ h : σ' = Trk, AdtIs p trkE ∧ pidsOk (cast h s) unit ∧
        ∀ ao cap bx, N (snoc (snoc hs ⟨.sl ao cap, .vecL 3 1 encI1 (pidsL (cast h s) unit) 0⟩) ⟨.blk bx, .cells [.vec (lenN hs) ao (pidsL (cast h s) unit).length cap] 32⟩) (.func (.func 99) [] [.ptr (lenN hs + 1) bx 0])
    | _ => False
  | _ => False
/-- slices.Sorted at what maps.Keys handed back; the map may be none. -/
def srtNC (fI T : Nat) : Ctr := fun args hs N => match args with
  | [.func (.func f) [] [.ptr lb b 0]] => f = fI ∧ match nth hs lb with
    | some ⟨.blk b', .cells [.map lm rm] _⟩ => match nth hs lm with
      | some ⟨.blk rm', .mapL (β := β) kd enc es⟩ => (b' = b ∧ rm' = rm ∧ kd = some .i64 ∧ wfI es) ∧ ∀ ao cap, N (snoc hs ⟨.sl ao cap, .vecL T 1 encI1 (sortI es) 0⟩) (.vec (lenN hs) ao (sortI es).length cap)
      | _ => False
    | some ⟨.blk b', .cells [.raw (.map none)] _⟩ => b' = b ∧ ∀ ao cap, N (snoc hs ⟨.sl ao cap, .vecL T 1 encI1 [] 0⟩) (.vec (lenN hs) ao 0 cap)
    | _ => False
  | _ => False
def tkT0 : Tbl := [(81, inl Try.prog [] true Try.f81 100), (80, srtNC 101 3), (79, inl Try.prog [] true Try.f79 100)]
end Go.Proofs.Ytihajdkipkfiiaa

/- YtihajdkipkfiiaaRaw -/
/- Slots of which nothing is said, in short. -/
namespace Go.Proofs.Ytihajdkipkfiiaa
open Go Go.RowKit
/-- n slots from the k-th one on, ahead of t. -/
def rawR (u : Nat → Value) (k : Nat) (t : List SV) : Nat → List SV
  | 0 => t
  | n + 1 => SV.raw (u k) :: rawR u (k + 1) t n
/-- n empty slots ahead of t. -/
def rawE (t : List SV) : Nat → List SV
  | 0 => t
  | n + 1 => SV.raw (Value.tuple #[]) :: rawE t n
end Go.Proofs.Ytihajdkipkfiiaa

/- YtihajdkipkfiiaaTk1Run -/
namespace Go.Proofs.Ytihajdkipkfiiaa
set_option linter.unusedVariables false
open Go Go.RowKit
set_option maxHeartbeats 0
set_option maxRecDepth 100000
set_option maxRecDepth 100000

theorem tNew_run (K : List Frm → Sy → Prop) (N : List Ent → SV → Prop) : (run Try.prog [] false [] K (retP Try.prog Try.f30.results.toList N) 600 [.code (bodyOf Try.f30)] ⟨padTo 5 [], []⟩) = (
∀ (b b_1 : Nat),
 (true = true ∧ true = true) ∧
  true = true ∧
   ∀ (b_2 : Nat),
    N
     [Ent.mk (Loc.blk b) (SObj.mapV (some IntKind.i64) []), Ent.mk (Loc.blk b_1) (SObj.mapV (@none IntKind) []),
      Ent.mk (Loc.blk b_2) (SObj.cells [SV.map 0 b, SV.map 1 b_1] 140)]
     (SV.ptr 2 b_2 0)) := by kernel_rfl


theorem tGone_none (K : List Frm → Sy → Prop) (N : List Ent → SV → Prop) (s : Trk) (b : Nat) (rest : List Ent) (pid : Int) : (run Try.prog [] false [] K (retP Try.prog Try.f33.results.toList N) 600 [.code (bodyOf Try.f33)] ⟨padTo 45 [.ptr 0 b 0, .int .i64 pid], [⟨.blk b, .cells [.map 1 s.bo, .map 2 s.bp] 140⟩, ⟨.blk s.bo, .map1 (some .i64) encO s.of (.i .i64 pid) none⟩, ⟨.blk s.bp, .mapL none encT s.ps⟩, pk 0 rest]⟩) = (
b = b ∧
 (s.1 = s.1 ∧ Key.i IntKind.i64 pid = Key.i IntKind.i64 pid ∧ some IntKind.i64 = some IntKind.i64) ∧
  N
   [Ent.mk (Loc.blk b) (SObj.cells [SV.map 1 s.1, SV.map 2 s.2] (140 : TypeId)), Ent.mk (Loc.blk s.1) (SObj.map1 (some IntKind.i64) encO s.3 (Key.i IntKind.i64 pid) (@none SV)),
    Ent.mk (Loc.blk s.2) (SObj.mapL (@none IntKind) encT s.4), pk 0 rest]
   (SV.tuple [SV.str (ByteArray.mk #[]), SV.int IntKind.i64 (190 : Int)])) := by kernel_rfl


theorem tGone_some (K : List Frm → Sy → Prop) (N : List Ent → SV → Prop) (s : Trk) (b nb : Nat) (n : ByteArray) (ms : List (Key × Unit)) (rest : List Ent) (pid : Int) : (run Try.prog [] false [] K (retP Try.prog Try.f33.results.toList N) 600 [.code (bodyOf Try.f33)] ⟨padTo 45 [.ptr 0 b 0, .int .i64 pid], [⟨.blk b, .cells [.map 1 s.bo, .map 2 s.bp] 140⟩, ⟨.blk s.bo, .map1 (some .i64) encO s.of (.i .i64 pid) (some (.str n))⟩, ⟨.blk s.bp, .map1 none encT s.ps (.s n) (some (.map 3 nb))⟩, ⟨.blk nb, .mapL (some .i64) encU ms⟩, pk 0 rest]⟩) = (
b = b ∧
 (s.1 = s.1 ∧ Key.i IntKind.i64 pid = Key.i IntKind.i64 pid ∧ some IntKind.i64 = some IntKind.i64) ∧
  b = b ∧
   (s.1 = s.1 ∧ some IntKind.i64 = some IntKind.i64 ∧ some IntKind.i64 = some IntKind.i64) ∧
    b = b ∧
     (s.2 = s.2 ∧ Key.s n = Key.s n ∧ @none IntKind = @none IntKind) ∧
      (nb = nb ∧ some IntKind.i64 = some IntKind.i64 ∧ some IntKind.i64 = some IntKind.i64) ∧
       b = b ∧
        (s.2 = s.2 ∧ Key.s n = Key.s n ∧ @none IntKind = @none IntKind) ∧
         nb = nb ∧
          match (↑(List.length (mdel ms (Key.i IntKind.i64 pid))) : Int) == (0 : Int) with
          | true =>
           b = b ∧
            (s.2 = s.2 ∧ @none IntKind = @none IntKind ∧ @none IntKind = @none IntKind) ∧
             N
              [Ent.mk (Loc.blk b) (SObj.cells [SV.map 1 s.1, SV.map 2 s.2] (140 : TypeId)),
               Ent.mk (Loc.blk s.1) (SObj.mapL (some IntKind.i64) encO (mdel s.3 (Key.i IntKind.i64 pid))), Ent.mk (Loc.blk s.2) (SObj.mapL (@none IntKind) encT (mdel s.4 (Key.s n))),
               Ent.mk (Loc.blk nb) (SObj.mapL (some IntKind.i64) encU (mdel ms (Key.i IntKind.i64 pid))), pk 0 rest]
              (SV.tuple [SV.str n, SV.int IntKind.i64 (0 : Int)])
          | false =>
           N
            [Ent.mk (Loc.blk b) (SObj.cells [SV.map 1 s.1, SV.map 2 s.2] (140 : TypeId)),
             Ent.mk (Loc.blk s.1) (SObj.mapL (some IntKind.i64) encO (mdel s.3 (Key.i IntKind.i64 pid))),
             Ent.mk (Loc.blk s.2) (SObj.map1 (@none IntKind) encT s.4 (Key.s n) (some (SV.map 3 nb))),
             Ent.mk (Loc.blk nb) (SObj.mapL (some IntKind.i64) encU (mdel ms (Key.i IntKind.i64 pid))), pk 0 rest]
            (SV.tuple [SV.str n, SV.int IntKind.i64 (0 : Int)])) := by kernel_rfl


theorem tPut_start (K : List Frm → Sy → Prop) (N : List Ent → SV → Prop) (s : Trk) (b : Nat) (n : ByteArray) (pid : Int) : (run Try.prog [(33, adtC trkE tgoneM)] false [1] K (retP Try.prog Try.f78.results.toList N) 600 [.code (bodyOf Try.f78)] ⟨padTo 36 [.ptr 0 b 0, .str n, .int .i64 pid], [pkA b trkE s]⟩) = (
true = true ∧
 b = b ∧
  ∃ (h : Trk = Trk),
   AdtIs (fun (s : Trk) (b : Nat) ↦ packs (trkE s b)) trkE ∧
    tOk s pid ∧
     K (frmR [] (bodyOf Try.f78) 1)
      (Sy.mk (SV.ptr 0 b 0 :: (SV.str n :: (SV.int IntKind.i64 pid :: (rawE (SV.ptr 0 b 0 :: (SV.int IntKind.i64 pid :: (SV.tuple [SV.str (tGone s pid).2.1, SV.int IntKind.i64 (tGone s pid).2.2] :: (rawE [] 27)))) 3))))
       [pkA b trkE (tGone s pid).1])) := by kernel_rfl


theorem tPut_none (K : List Frm → Sy → Prop) (N : List Ent → SV → Prop) (s : Trk) (b : Nat) (rest : List Ent) (n : ByteArray) (pid : Int) (u : Nat → Value) : (run Try.prog [] false [] K (retP Try.prog Try.f78.results.toList N) 900 (frmR [] (bodyOf Try.f78) 1) ⟨mkT u 36 0 [(0, .ptr 0 b 0), (1, .str n), (2, .int .i64 pid)], [⟨.blk b, .cells [.map 1 s.bo, .map 2 s.bp] 140⟩, ⟨.blk s.bo, .mapL (some .i64) encO s.of⟩, ⟨.blk s.bp, .map1 none encT s.ps (.s n) none⟩, pk 0 rest]⟩) = (
b = b ∧
 (s.1 = s.1 ∧ some IntKind.i64 = some IntKind.i64 ∧ some IntKind.i64 = some IntKind.i64) ∧
  ∃ (u : ByteArray),
   den (SV.str u) = den (SV.str n) ∧
    b = b ∧
     (s.2 = s.2 ∧ Key.s n = Key.s n ∧ @none IntKind = @none IntKind) ∧
      b = b ∧
       ∀ (b_1 : Nat),
        (s.2 = s.2 ∧ @none IntKind = @none IntKind ∧ @none IntKind = @none IntKind) ∧
         ∃ (u_1 : GSet),
          den (SV.map 3 u_1.1) = den (SV.map 4 b_1) ∧
           b = b ∧
            (s.2 = s.2 ∧ Key.s n = Key.s n ∧ @none IntKind = @none IntKind) ∧
             (true = true ∧ true = true) ∧
              (b_1 = b_1 ∧ some IntKind.i64 = some IntKind.i64 ∧ some IntKind.i64 = some IntKind.i64) ∧
               N
                [Ent.mk (Loc.blk b) (SObj.cells [SV.map 1 s.1, SV.map 2 s.2] (140 : TypeId)),
                 Ent.mk (Loc.blk s.1) (SObj.mapL (some IntKind.i64) encO (mset s.3 (Key.i IntKind.i64 pid) u)),
                 Ent.mk (Loc.blk s.2) (SObj.map1 (@none IntKind) encT (mset s.4 (Key.s n) u_1) (Key.s n) (some (SV.map 4 b_1))), pk 0 rest,
                 Ent.mk (Loc.blk b_1) (SObj.mapV (some IntKind.i64) [(Key.i IntKind.i64 pid, SV.agg [])])]
                (SV.tuple [])) := by kernel_rfl


theorem tPut_some (K : List Frm → Sy → Prop) (N : List Ent → SV → Prop) (s : Trk) (b nb : Nat) (n : ByteArray) (ms : List (Key × Unit)) (rest : List Ent) (pid : Int) (u : Nat → Value) : (run Try.prog [] false [] K (retP Try.prog Try.f78.results.toList N) 900 (frmR [] (bodyOf Try.f78) 1) ⟨mkT u 36 0 [(0, .ptr 0 b 0), (1, .str n), (2, .int .i64 pid)], [⟨.blk b, .cells [.map 1 s.bo, .map 2 s.bp] 140⟩, ⟨.blk s.bo, .mapL (some .i64) encO s.of⟩, ⟨.blk s.bp, .map1 none encT s.ps (.s n) (some (.map 3 nb))⟩, ⟨.blk nb, .mapL (some .i64) encU ms⟩, pk 0 rest]⟩) = (
b = b ∧
 (s.1 = s.1 ∧ some IntKind.i64 = some IntKind.i64 ∧ some IntKind.i64 = some IntKind.i64) ∧
  ∃ (u : ByteArray),
   den (SV.str u) = den (SV.str n) ∧
    b = b ∧
     (s.2 = s.2 ∧ Key.s n = Key.s n ∧ @none IntKind = @none IntKind) ∧
      b = b ∧
       (s.2 = s.2 ∧ Key.s n = Key.s n ∧ @none IntKind = @none IntKind) ∧
        (true = true ∧ true = true) ∧
         (nb = nb ∧ some IntKind.i64 = some IntKind.i64 ∧ some IntKind.i64 = some IntKind.i64) ∧
          ∃ (u_1 : Unit),
           den (SV.agg []) = den (SV.agg []) ∧
            N
             [Ent.mk (Loc.blk b) (SObj.cells [SV.map 1 s.1, SV.map 2 s.2] (140 : TypeId)),
              Ent.mk (Loc.blk s.1) (SObj.mapL (some IntKind.i64) encO (mset s.3 (Key.i IntKind.i64 pid) u)),
              Ent.mk (Loc.blk s.2) (SObj.map1 (@none IntKind) encT s.4 (Key.s n) (some (SV.map 3 nb))),
              Ent.mk (Loc.blk nb) (SObj.mapL (some IntKind.i64) encU (mset ms (Key.i IntKind.i64 pid) u_1)), pk 0 rest]
             (SV.tuple [])) := by kernel_rfl


theorem tAdd_start (K : List Frm → Sy → Prop) (N : List Ent → SV → Prop) (s : Trk) (b : Nat) (rest : List Ent) (n : ByteArray) (pid : Int) : (run Try.prog [] false [4] K (retP Try.prog Try.f31.results.toList N) 600 [.code (bodyOf Try.f31)] ⟨padTo 31 [.ptr 0 b 0, .str n, .int .i64 pid], [⟨.blk b, .cells [.map 1 s.bo, .map 2 s.bp] 140⟩, ⟨.blk s.bo, .map1 (some .i64) encO s.of (.i .i64 pid) none⟩, ⟨.blk s.bp, .mapL none encT s.ps⟩, pk 0 rest]⟩) = (
b = b ∧
 (s.1 = s.1 ∧ Key.i IntKind.i64 pid = Key.i IntKind.i64 pid ∧ some IntKind.i64 = some IntKind.i64) ∧
  match sEq n (ByteArray.mk #[]) with
  | true =>
   N
    [Ent.mk (Loc.blk b) (SObj.cells [SV.map 1 s.1, SV.map 2 s.2] (140 : TypeId)), Ent.mk (Loc.blk s.1) (SObj.map1 (some IntKind.i64) encO s.3 (Key.i IntKind.i64 pid) (@none SV)),
     Ent.mk (Loc.blk s.2) (SObj.mapL (@none IntKind) encT s.4), pk 0 rest]
    (SV.int IntKind.i64 (190 : Int))
  | false =>
   match decide (pid < (2 : Int)) with
   | true =>
    N
     [Ent.mk (Loc.blk b) (SObj.cells [SV.map 1 s.1, SV.map 2 s.2] (140 : TypeId)), Ent.mk (Loc.blk s.1) (SObj.map1 (some IntKind.i64) encO s.3 (Key.i IntKind.i64 pid) (@none SV)),
      Ent.mk (Loc.blk s.2) (SObj.mapL (@none IntKind) encT s.4), pk 0 rest]
     (SV.int IntKind.i64 (190 : Int))
   | false =>
    K (frmR [] (bodyOf Try.f31) 4)
     (Sy.mk (SV.ptr 0 b 0 :: (SV.str n :: (SV.int IntKind.i64 pid :: (rawE (SV.int IntKind.i64 (0 : Int) :: (SV.str (ByteArray.mk #[]) :: (SV.bool false :: (SV.tuple [SV.str (ByteArray.mk #[]), SV.bool false] :: (SV.ptr 0 b 0 :: (SV.ptr 0 b 0 :: (SV.ptr 0 b 0 :: (SV.map 1 s.1 :: (SV.int IntKind.i64 pid :: (SV.tuple [SV.str (ByteArray.mk #[]), SV.bool false] :: (SV.str (ByteArray.mk #[]) :: (SV.bool false :: (SV.bool false :: (SV.bool false :: (SV.str n :: (SV.bool (sEq n (ByteArray.mk #[])) :: (SV.bool (sEq n (ByteArray.mk #[])) :: (SV.bool false :: (SV.int IntKind.i64 pid :: (SV.bool (decide (pid < (2 : Int))) :: (SV.bool false :: (rawE [] 4)))))))))))))))))))))) 3))))
      [Ent.mk (Loc.blk b) (SObj.cells [SV.map 1 s.1, SV.map 2 s.2] (140 : TypeId)),
       Ent.mk (Loc.blk s.1) (SObj.map1 (some IntKind.i64) encO s.3 (Key.i IntKind.i64 pid) (@none SV)), Ent.mk (Loc.blk s.2) (SObj.mapL (@none IntKind) encT s.4), pk 0 rest])) := by kernel_rfl


theorem tAdd_there (K : List Frm → Sy → Prop) (N : List Ent → SV → Prop) (s : Trk) (b : Nat) (rest : List Ent) (n m : ByteArray) (pid : Int) : (run Try.prog [] false [] K (retP Try.prog Try.f31.results.toList N) 600 [.code (bodyOf Try.f31)] ⟨padTo 31 [.ptr 0 b 0, .str n, .int .i64 pid], [⟨.blk b, .cells [.map 1 s.bo, .map 2 s.bp] 140⟩, ⟨.blk s.bo, .map1 (some .i64) encO s.of (.i .i64 pid) (some (.str m))⟩, ⟨.blk s.bp, .mapL none encT s.ps⟩, pk 0 rest]⟩) = (
b = b ∧
 (s.1 = s.1 ∧ Key.i IntKind.i64 pid = Key.i IntKind.i64 pid ∧ some IntKind.i64 = some IntKind.i64) ∧
  N
   [Ent.mk (Loc.blk b) (SObj.cells [SV.map 1 s.1, SV.map 2 s.2] (140 : TypeId)),
    Ent.mk (Loc.blk s.1) (SObj.map1 (some IntKind.i64) encO s.3 (Key.i IntKind.i64 pid) (some (SV.str m))), Ent.mk (Loc.blk s.2) (SObj.mapL (@none IntKind) encT s.4), pk 0 rest]
   (SV.int IntKind.i64 (190 : Int))) := by kernel_rfl


theorem tAdd_end (K : List Frm → Sy → Prop) (N : List Ent → SV → Prop) (s : Trk) (b : Nat) (n : ByteArray) (pid : Int) (u : Nat → Value) : (run Try.prog [(78, adtC trkE tputM)] false [] K (retP Try.prog Try.f31.results.toList N) 900 (frmR [] (bodyOf Try.f31) 4) ⟨mkT u 31 0 [(0, .ptr 0 b 0), (1, .str n), (2, .int .i64 pid)], [pkA b trkE s]⟩) = (
true = true ∧
 b = b ∧ ∃ (h : Trk = Trk), AdtIs (fun (s : Trk) (b : Nat) ↦ packs (trkE s b)) trkE ∧ tOk s pid ∧ ∀ (nb : Nat), N [pkA b trkE (tPut (tGone s pid).1 n pid nb)] (SV.int IntKind.i64 (0 : Int))) := by kernel_rfl


theorem tFork_none (K : List Frm → Sy → Prop) (N : List Ent → SV → Prop) (s : Trk) (b : Nat) (rest : List Ent) (pid c : Int) : (run Try.prog [] false [] K (retP Try.prog Try.f32.results.toList N) 600 [.code (bodyOf Try.f32)] ⟨padTo 24 [.ptr 0 b 0, .int .i64 pid, .int .i64 c], [⟨.blk b, .cells [.map 1 s.bo, .map 2 s.bp] 140⟩, ⟨.blk s.bo, .map1 (some .i64) encO s.of (.i .i64 pid) none⟩, ⟨.blk s.bp, .mapL none encT s.ps⟩, pk 0 rest]⟩) = (
b = b ∧
 (s.1 = s.1 ∧ Key.i IntKind.i64 pid = Key.i IntKind.i64 pid ∧ some IntKind.i64 = some IntKind.i64) ∧
  N
   [Ent.mk (Loc.blk b) (SObj.cells [SV.map 1 s.1, SV.map 2 s.2] (140 : TypeId)), Ent.mk (Loc.blk s.1) (SObj.map1 (some IntKind.i64) encO s.3 (Key.i IntKind.i64 pid) (@none SV)),
    Ent.mk (Loc.blk s.2) (SObj.mapL (@none IntKind) encT s.4), pk 0 rest]
   (SV.int IntKind.i64 (190 : Int))) := by kernel_rfl


theorem tFork_some (K : List Frm → Sy → Prop) (N : List Ent → SV → Prop) (s : Trk) (b : Nat) (rest : List Ent) (n : ByteArray) (pid c : Int) : (run Try.prog [] false [4] K (retP Try.prog Try.f32.results.toList N) 600 [.code (bodyOf Try.f32)] ⟨padTo 24 [.ptr 0 b 0, .int .i64 pid, .int .i64 c], [⟨.blk b, .cells [.map 1 s.bo, .map 2 s.bp] 140⟩, ⟨.blk s.bo, .map1 (some .i64) encO s.of (.i .i64 pid) (some (.str n))⟩, ⟨.blk s.bp, .mapL none encT s.ps⟩, pk 0 rest]⟩) = (
b = b ∧
 (s.1 = s.1 ∧ Key.i IntKind.i64 pid = Key.i IntKind.i64 pid ∧ some IntKind.i64 = some IntKind.i64) ∧
  K (frmR [] (bodyOf Try.f32) 4)
   (Sy.mk (SV.ptr 0 b 0 :: (SV.int IntKind.i64 pid :: (SV.int IntKind.i64 c :: (rawE (SV.int IntKind.i64 (0 : Int) :: (SV.str n :: (SV.bool true :: (SV.tuple [SV.str n, SV.bool true] :: (SV.ptr 0 b 0 :: (SV.ptr 0 b 0 :: (SV.ptr 0 b 0 :: (SV.map 1 s.1 :: (SV.int IntKind.i64 pid :: (SV.tuple [SV.str n, SV.bool true] :: (SV.str n :: (SV.bool true :: (SV.bool true :: (SV.bool false :: (rawE [] 4))))))))))))))) 3))))
    [Ent.mk (Loc.blk b) (SObj.cells [SV.map 1 s.1, SV.map 2 s.2] (140 : TypeId)),
     Ent.mk (Loc.blk s.1) (SObj.map1 (some IntKind.i64) encO s.3 (Key.i IntKind.i64 pid) (some (SV.str n))), Ent.mk (Loc.blk s.2) (SObj.mapL (@none IntKind) encT s.4), pk 0 rest])) := by kernel_rfl


theorem tFork_end (K : List Frm → Sy → Prop) (N : List Ent → SV → Prop) (s : Trk) (b : Nat) (n : ByteArray) (c : Int) (u : Nat → Value) : (run Try.prog [(31, adtC trkE taddM)] false [] K (retP Try.prog Try.f32.results.toList N) 900 (frmR [] (bodyOf Try.f32) 4) ⟨mkT u 24 0 [(0, .ptr 0 b 0), (2, .int .i64 c), (7, .str n)], [pkA b trkE s]⟩) = (
true = true ∧ b = b ∧ ∃ (h : Trk = Trk), AdtIs (fun (s : Trk) (b : Nat) ↦ packs (trkE s b)) trkE ∧ ∀ (nb : Nat), N [pkA b trkE (tAdd s n c nb).1] (SV.int IntKind.i64 (tAdd s n c nb).2)) := by kernel_rfl


theorem tUnit_none (K : List Frm → Sy → Prop) (N : List Ent → SV → Prop) (s : Trk) (b : Nat) (rest : List Ent) (pid : Int) : (run Try.prog [] false [] K (retP Try.prog Try.f56.results.toList N) 600 [.code (bodyOf Try.f56)] ⟨padTo 19 [.ptr 0 b 0, .int .i64 pid], [⟨.blk b, .cells [.map 1 s.bo, .map 2 s.bp] 140⟩, ⟨.blk s.bo, .map1 (some .i64) encO s.of (.i .i64 pid) none⟩, ⟨.blk s.bp, .mapL none encT s.ps⟩, pk 0 rest]⟩) = (
b = b ∧
 (s.1 = s.1 ∧ Key.i IntKind.i64 pid = Key.i IntKind.i64 pid ∧ some IntKind.i64 = some IntKind.i64) ∧
  N
   [Ent.mk (Loc.blk b) (SObj.cells [SV.map 1 s.1, SV.map 2 s.2] (140 : TypeId)), Ent.mk (Loc.blk s.1) (SObj.map1 (some IntKind.i64) encO s.3 (Key.i IntKind.i64 pid) (@none SV)),
    Ent.mk (Loc.blk s.2) (SObj.mapL (@none IntKind) encT s.4), pk 0 rest]
   (SV.tuple [SV.str (ByteArray.mk #[]), SV.bool false])) := by kernel_rfl


theorem tUnit_some (K : List Frm → Sy → Prop) (N : List Ent → SV → Prop) (s : Trk) (b : Nat) (rest : List Ent) (n : ByteArray) (pid : Int) : (run Try.prog [] false [] K (retP Try.prog Try.f56.results.toList N) 600 [.code (bodyOf Try.f56)] ⟨padTo 19 [.ptr 0 b 0, .int .i64 pid], [⟨.blk b, .cells [.map 1 s.bo, .map 2 s.bp] 140⟩, ⟨.blk s.bo, .map1 (some .i64) encO s.of (.i .i64 pid) (some (.str n))⟩, ⟨.blk s.bp, .mapL none encT s.ps⟩, pk 0 rest]⟩) = (
b = b ∧
 (s.1 = s.1 ∧ Key.i IntKind.i64 pid = Key.i IntKind.i64 pid ∧ some IntKind.i64 = some IntKind.i64) ∧
  N
   [Ent.mk (Loc.blk b) (SObj.cells [SV.map 1 s.1, SV.map 2 s.2] (140 : TypeId)),
    Ent.mk (Loc.blk s.1) (SObj.map1 (some IntKind.i64) encO s.3 (Key.i IntKind.i64 pid) (some (SV.str n))), Ent.mk (Loc.blk s.2) (SObj.mapL (@none IntKind) encT s.4), pk 0 rest]
   (SV.tuple [SV.str n, SV.bool true])) := by kernel_rfl


theorem tPids_none (K : List Frm → Sy → Prop) (N : List Ent → SV → Prop) (s : Trk) (b : Nat) (rest : List Ent) (n : ByteArray) : (run Try.prog tkT0 true [] K (retP Try.prog Try.f34.results.toList N) 600 [.code (bodyOf Try.f34)] ⟨padTo 14 [.ptr 0 b 0, .str n], [⟨.blk b, .cells [.map 1 s.bo, .map 2 s.bp] 140⟩, ⟨.blk s.bo, .mapL (some .i64) encO s.of⟩, ⟨.blk s.bp, .map1 none encT s.ps (.s n) none⟩, pk 0 rest]⟩) = (
b = b ∧
 (s.2 = s.2 ∧ Key.s n = Key.s n ∧ @none IntKind = @none IntKind) ∧
  true = true ∧
   true = true ∧
    ∀ (b_1 : Nat),
     true = true ∧
      101 = 101 ∧
       b_1 = b_1 ∧
        ∀ (ao : Option Addr) (cap : Nat),
         true = true ∧
          true = true ∧
           ∀ (b_2 : Nat),
            N
             [Ent.mk (Loc.blk b) (SObj.cells [SV.map 1 s.1, SV.map 2 s.2] (140 : TypeId)), Ent.mk (Loc.blk s.1) (SObj.mapL (some IntKind.i64) encO s.3),
              Ent.mk (Loc.blk s.2) (SObj.map1 (@none IntKind) encT s.4 (Key.s n) (@none SV)), pk 0 rest,
              Ent.mk (Loc.blk b_1) (SObj.cells [SV.raw (Value.map (@none Nat))] 119), Ent.mk (Loc.sl ao cap) (SObj.vecL 3 1 encI1 [] (0 : Int)),
              Ent.mk (Loc.blk b_2) (SObj.cells [SV.vec 5 ao 0 cap] 32)]
             (SV.func (Fn.func 99) [] [SV.ptr 6 b_2 0])) := by kernel_rfl


theorem tPids_some (K : List Frm → Sy → Prop) (N : List Ent → SV → Prop) (s : Trk) (b nb : Nat) (n : ByteArray) (ms : List (Key × Unit)) (rest : List Ent) : (run Try.prog tkT0 true [] K (retP Try.prog Try.f34.results.toList N) 600 [.code (bodyOf Try.f34)] ⟨padTo 14 [.ptr 0 b 0, .str n], [⟨.blk b, .cells [.map 1 s.bo, .map 2 s.bp] 140⟩, ⟨.blk s.bo, .mapL (some .i64) encO s.of⟩, ⟨.blk s.bp, .map1 none encT s.ps (.s n) (some (.map 3 nb))⟩, ⟨.blk nb, .mapL (some .i64) encU ms⟩, pk 0 rest]⟩) = (
b = b ∧
 (s.2 = s.2 ∧ Key.s n = Key.s n ∧ @none IntKind = @none IntKind) ∧
  true = true ∧
   true = true ∧
    ∀ (b_1 : Nat),
     true = true ∧
      101 = 101 ∧
       (b_1 = b_1 ∧ nb = nb ∧ some IntKind.i64 = some IntKind.i64 ∧ wfI ms) ∧
        ∀ (ao : Option Addr) (cap : Nat),
         true = true ∧
          true = true ∧
           ∀ (b_2 : Nat),
            N
             [Ent.mk (Loc.blk b) (SObj.cells [SV.map 1 s.1, SV.map 2 s.2] (140 : TypeId)), Ent.mk (Loc.blk s.1) (SObj.mapL (some IntKind.i64) encO s.3),
              Ent.mk (Loc.blk s.2) (SObj.map1 (@none IntKind) encT s.4 (Key.s n) (some (SV.map 3 nb))), Ent.mk (Loc.blk nb) (SObj.mapL (some IntKind.i64) encU ms),
              pk 0 rest, Ent.mk (Loc.blk b_1) (SObj.cells [SV.map 3 nb] 119), Ent.mk (Loc.sl ao cap) (SObj.vecL 3 1 encI1 (sortI ms) (0 : Int)),
              Ent.mk (Loc.blk b_2) (SObj.cells [SV.vec 6 ao (List.length (sortI ms)) cap] 32)]
             (SV.func (Fn.func 99) [] [SV.ptr 7 b_2 0])) := by kernel_rfl
end Go.Proofs.Ytihajdkipkfiiaa

/- YtihajdkipkfiiaaTrk1 -/
/- track.Track: Gone, puts. -/
namespace Go.Proofs.Ytihajdkipkfiiaa
open Go Go.RowKit
set_option linter.unusedVariables false
set_option linter.unusedSimpArgs false
set_option linter.unnecessarySimpa false
set_option maxHeartbeats 0

theorem hmT : Try.prog.follows .mixedOrders = true := by kernel_rfl
theorem es_split {β : Type} {es : List (Key × β)} {n : ByteArray} {v : β} (h : mget es (.s n) = some v) : ∃ x y, es = x ++ (.s n, v) :: y ∧ (∀ u, mset es (.s n) u = x ++ (.s n, u) :: y) ∧ mdel es (.s n) = x ++ y := by
  obtain ⟨x, y, k', h1, h2, _, h3, h4⟩ := mget_split h
  rw [keyEq_s h2] at h1
  exact ⟨x, y, h1, h3, h4⟩
section
variable {W w : World} {F : List Ch} {s : Trk} {b : Nat} {n : ByteArray} {v : GSet} {x y : List (Key × GSet)}
theorem trk_open (hs : s.ps = x ++ (.s n, v) :: y) (hr : Rep W F (trkE s b) w) : Rep W F [⟨.blk b, .cells [.map 1 s.bo, .map 2 s.bp] 140⟩, ⟨.blk s.bo, .mapL (some .i64) encO s.of⟩, ⟨.blk s.bp, .mapL none encT s.ps⟩, ⟨.blk v.1, .mapL (some .i64) encU v.2⟩, pk 0 (x.map setE ++ y.map setE)] w := by
  have e : s.ps.map setE = x.map setE ++ setE (.s n, v) :: y.map setE := by rw [hs]; simp
  unfold trkE at hr
  rw [e] at hr
  exact Rep.outP (p := [⟨.blk b, .cells [.map 1 s.bo, .map 2 s.bp] 140⟩, ⟨.blk s.bo, .mapL (some .i64) encO s.of⟩, ⟨.blk s.bp, .mapL none encT s.ps⟩]) (t := []) hr
theorem trk_close {a1 a2 a3 : Ent} {t : List Ent} (hr : Rep W F (a1 :: a2 :: a3 :: ⟨.blk v.1, .mapL (some .i64) encU v.2⟩ :: pk 0 (x.map setE ++ y.map setE) :: t) w) : Rep W F ([a1, a2, a3, pk 0 ((x ++ (.s n, v) :: y).map setE)] ++ t) w := by
  have := Rep.intoP (p := [a1, a2, a3]) (t := t) (e := setE (.s n, v)) hr
  have e : (x ++ (.s n, v) :: y).map setE = x.map setE ++ setE (.s n, v) :: y.map setE := by simp
  rw [e]; exact this
theorem trk_map {a1 a2 : Ent} {t : List Ent} {bp : Nat} {v' : GSet} (hv : v'.1 = v.1) (hr : Rep W F (a1 :: a2 :: ⟨.blk bp, .mapL none encT (x ++ (.s n, v) :: y)⟩ :: t) w) : Rep W F (a1 :: a2 :: ⟨.blk bp, .mapL none encT (x ++ (.s n, v') :: y)⟩ :: t) w := by
  refine Rep.mapCongr (l := 2) encT (x ++ (.s n, v') :: y) rfl (fun e he => ?_) ?_ hr
  · have hk := Rep.mapKinds (l := 2) rfl hr
    rcases List.mem_append.1 he with he | he
    · exact hk e (List.mem_append.2 (.inl he))
    · rcases List.mem_cons.1 he with rfl | he
      · rfl
      · exact hk e (List.mem_append.2 (.inr (List.mem_cons_of_mem _ he)))
  · simp [encT, den, hv]
end
theorem tGone_ok : CtrOk Try.prog 33 (adtC trkE tgoneM) := adt_ok fun b s rest N h => by
  unfold tgoneM at h
  split at h
  case h_2 => exact h.elim
  rename_i pid
  obtain ⟨hof, h⟩ := h
  cases hg : mget s.of (.i .i64 pid) with
  | none =>
    have e : tGone s pid = (s, ⟨#[]⟩, 190) := by simp only [tGone, hg]
    rw [e] at h
    refine Spec.pre (hs' := [⟨.blk b, .cells [.map 1 s.bo, .map 2 s.bp] 140⟩, ⟨.blk s.bo, .map1 (some .i64) encO s.of (.i .i64 pid) none⟩, ⟨.blk s.bp, .mapL none encT s.ps⟩, pk 0 (s.ps.map setE)]) (fun W F w hr => Rep.know1 (l := 1) (.i .i64 pid) none rfl rfl (by rw [hg]; rfl) hr) rfl ?_
    refine Spec.of_G 45 Try.func33 (c := bodyOf Try.f33) (by kernel_rfl) (by kernel_rfl) (Nat.le_of_ble_eq_true rfl) fun W F => ?_
    refine G_run (kc := false) (ss := []) (Cs := []) trivial hmT 600 ?_
    rw [tGone_none]
    have fin := fun W F w hr => Rep.forget1 (W := W) (w := w) (F := F) (h := [⟨.blk b, .cells [.map 1 s.bo, .map 2 s.bp] 140⟩, ⟨.blk s.bo, .map1 (some .i64) encO s.of (.i .i64 pid) none⟩, ⟨.blk s.bp, .mapL none encT s.ps⟩, pk 0 (s.ps.map setE)]) (l := 1) rfl hr
    exact ⟨rfl, ⟨rfl, rfl, rfl⟩, s, fin, h⟩
  | some n =>
    obtain ⟨⟨nb, ms⟩, hx⟩ := hof n hg
    obtain ⟨x, y, hs, hset, hdel⟩ := es_split hx
    refine Spec.pre (hs' := [⟨.blk b, .cells [.map 1 s.bo, .map 2 s.bp] 140⟩, ⟨.blk s.bo, .map1 (some .i64) encO s.of (.i .i64 pid) (some (.str n))⟩, ⟨.blk s.bp, .map1 none encT s.ps (.s n) (some (.map 3 nb))⟩, ⟨.blk nb, .mapL (some .i64) encU ms⟩, pk 0 (x.map setE ++ y.map setE)]) (fun W F w hr => Rep.know1 (l := 2) (.s n) (some (.map 3 nb)) rfl rfl (by rw [hx]; rfl) (Rep.know1 (l := 1) (.i .i64 pid) (some (.str n)) rfl rfl (by rw [hg]; rfl) (trk_open hs hr))) rfl ?_
    refine Spec.of_G 45 Try.func33 (c := bodyOf Try.f33) (by kernel_rfl) (by kernel_rfl) (Nat.le_of_ble_eq_true rfl) fun W F => ?_
    refine G_run (kc := false) (ss := []) (Cs := []) trivial hmT 600 ?_
    rw [tGone_some]
    have hc : (((mdel ms (.i .i64 pid)).length : Int) == 0) = ((mdel ms (.i .i64 pid)).length == 0) := by rw [Bool.eq_iff_iff]; simp
    rw [hc]
    cases hm : ((mdel ms (.i .i64 pid)).length == 0) with
    | true =>
      have e : tGone s pid = ({ s with of := mdel s.of (.i .i64 pid), ps := mdel s.ps (.s n) }, n, 0) := by simp only [tGone, hg, hx, hm]
      rw [e] at h
      have hcl : ∀ (e3 : Ent) W F w, Rep W F [⟨.blk b, .cells [.map 1 s.bo, .map 2 s.bp] 140⟩, ⟨.blk s.bo, .mapL (some .i64) encO (mdel s.of (.i .i64 pid))⟩, ⟨.blk s.bp, .mapL none encT (mdel s.ps (.s n))⟩, e3, pk 0 (x.map setE ++ y.map setE)] w → Rep W F (trkE { s with of := mdel s.of (.i .i64 pid), ps := mdel s.ps (.s n) } b) w := fun e3 W F w hr => by
        have e2 : (mdel s.ps (.s n)).map setE = x.map setE ++ y.map setE := by rw [hdel]; simp
        unfold trkE
        dsimp only
        rw [e2]
        exact Rep.pick (π := [0, 1, 2, 4]) (by decide) rfl hr
      have fin := h
      repeat' first
        | exact rfl
        | exact ⟨_, hcl _, h⟩
        | apply And.intro
        | fail
    | false =>
      have e : tGone s pid = ({ s with of := mdel s.of (.i .i64 pid), ps := mset s.ps (.s n) (nb, mdel ms (.i .i64 pid)) }, n, 0) := by simp only [tGone, hg, hx, hm]
      rw [e] at h
      have hcl : ∀ W F w, Rep W F [⟨.blk b, .cells [.map 1 s.bo, .map 2 s.bp] 140⟩, ⟨.blk s.bo, .mapL (some .i64) encO (mdel s.of (.i .i64 pid))⟩, ⟨.blk s.bp, .map1 none encT s.ps (.s n) (some (.map 3 nb))⟩, ⟨.blk nb, .mapL (some .i64) encU (mdel ms (.i .i64 pid))⟩, pk 0 (x.map setE ++ y.map setE)] w → Rep W F (trkE { s with of := mdel s.of (.i .i64 pid), ps := mset s.ps (.s n) (nb, mdel ms (.i .i64 pid)) } b) w := fun W F w hr => by
        have h1 := Rep.forget1 (l := 2) rfl hr
        rw [hs] at h1
        have h2 := trk_map (v := (nb, ms)) (v' := (nb, mdel ms (.i .i64 pid))) rfl h1
        have h3 := trk_close (n := n) (v := (nb, mdel ms (.i .i64 pid))) (t := []) h2
        unfold trkE
        dsimp only
        rw [hset]
        simpa using h3
      repeat' first
        | exact rfl
        | exact ⟨_, hcl, h⟩
        | apply And.intro
        | fail
theorem tPut_ok : CtrOk Try.prog 78 (adtC trkE tputM) := adt_ok fun b s rest N h => by
  unfold tputM at h
  split at h
  case h_2 => exact h.elim
  rename_i n pid
  obtain ⟨hto, h⟩ := h
  refine Spec.pre (hs' := [pkA b trkE s]) (args' := [.ptr 0 b 0, .str n, .int .i64 pid]) (fun W F w hr => Rep.pkA1 hr) rfl ?_
  refine Spec.of_G 36 Try.func78 (c := bodyOf Try.f78) (by kernel_rfl) (by kernel_rfl) (Nat.le_of_ble_eq_true rfl) fun W F => ?_
  refine G_run (kc := false) (ss := [1]) (Cs := [(33, adtC trkE tgoneM)]) ⟨tGone_ok, trivial⟩ hmT 600 ?_
  rw [tPut_start]
  refine ⟨rfl, rfl, rfl, HEq.rfl, hto, ?_⟩
  generalize (tGone s pid).1 = s1 at h ⊢
  cases hx : mget s1.ps (.s n) with
  | none =>
    have e : ∀ nb, tPut s1 n pid nb = { s1 with of := mset s1.of (.i .i64 pid) n, ps := mset s1.ps (.s n) (nb, [(.i .i64 pid, ())]) } := fun nb => by simp only [tPut, hx]
    refine G_live 36 [(0, .ptr 0 b 0), (1, .str n), (2, .int .i64 pid)] [⟨.blk b, .cells [.map 1 s1.bo, .map 2 s1.bp] 140⟩, ⟨.blk s1.bo, .mapL (some .i64) encO s1.of⟩, ⟨.blk s1.bp, .map1 none encT s1.ps (.s n) none⟩, pk 0 (s1.ps.map setE)] rfl ⟨rfl, rfl, rfl, trivial⟩ (fun w hr => Rep.know1 (l := 2) (.s n) none rfl rfl (by rw [hx]; rfl) hr.unpkA1) fun u => ?_
    refine G_run (kc := false) (ss := []) (Cs := []) trivial hmT 900 ?_
    rw [tPut_none]
    have fin : ∀ (nb : Nat), (fun (h' : List Ent) (r : SV) => ∃ s1', (∀ W F w, Rep W F h' w → Rep W F (trkE s1' b) w) ∧ N s1' r) [⟨.blk b, .cells [.map 1 s1.bo, .map 2 s1.bp] 140⟩, ⟨.blk s1.bo, .mapL (some .i64) encO (mset s1.of (.i .i64 pid) n)⟩, ⟨.blk s1.bp, .map1 none encT (mset s1.ps (.s n) (nb, [(.i .i64 pid, ())])) (.s n) (some (.map 4 nb))⟩, pk 0 (s1.ps.map setE), ⟨.blk nb, .mapV (some .i64) [(.i .i64 pid, .agg [])]⟩] (.tuple []) := fun nb => by
      have hN := h nb
      rw [e] at hN
      refine ⟨_, fun W F w hr => ?_, hN⟩
      have h1 := Rep.forget1 (l := 2) rfl hr
      have h2 := Rep.mapOf (l := 4) encU [(.i .i64 pid, ())] rfl rfl h1
      have h4 := Rep.pick (π := [0, 1, 2, 4, 3]) (by decide) rfl h2
      have h5 := Rep.intoNewP (p := [⟨.blk b, .cells [.map 1 s1.bo, .map 2 s1.bp] 140⟩, ⟨.blk s1.bo, .mapL (some .i64) encO (mset s1.of (.i .i64 pid) n)⟩, ⟨.blk s1.bp, .mapL none encT (mset s1.ps (.s n) (nb, [(.i .i64 pid, ())]))⟩]) (t := []) h4
      have e2 : (mset s1.ps (.s n) (nb, [((.i .i64 pid : Key), ())])).map setE = s1.ps.map setE ++ [setE (.s n, (nb, [(.i .i64 pid, ())]))] := by rw [mset_none hx]; simp
      unfold trkE
      dsimp only
      rw [e2]
      exact h5
    repeat' first
      | exact rfl
      | exact fin _
      | (refine ⟨n, rfl, ?_⟩)
      | (refine ⟨(nb, [(.i .i64 pid, ())]), rfl, ?_⟩)
      | apply And.intro
      | (refine fun nb => ?_)
      | fail
  | some v =>
    obtain ⟨nb, ms⟩ := v
    obtain ⟨x, y, hs, hset, hdel⟩ := es_split hx
    have e : ∀ nb', tPut s1 n pid nb' = { s1 with of := mset s1.of (.i .i64 pid) n, ps := mset s1.ps (.s n) (nb, mset ms (.i .i64 pid) ()) } := fun nb' => by simp only [tPut, hx]
    refine G_live 36 [(0, .ptr 0 b 0), (1, .str n), (2, .int .i64 pid)] [⟨.blk b, .cells [.map 1 s1.bo, .map 2 s1.bp] 140⟩, ⟨.blk s1.bo, .mapL (some .i64) encO s1.of⟩, ⟨.blk s1.bp, .map1 none encT s1.ps (.s n) (some (.map 3 nb))⟩, ⟨.blk nb, .mapL (some .i64) encU ms⟩, pk 0 (x.map setE ++ y.map setE)] rfl ⟨rfl, rfl, rfl, trivial⟩ (fun w hr => Rep.know1 (l := 2) (.s n) (some (.map 3 nb)) rfl rfl (by rw [hx]; rfl) (trk_open hs hr.unpkA1)) fun u => ?_
    refine G_run (kc := false) (ss := []) (Cs := []) trivial hmT 900 ?_
    rw [tPut_some]
    have fin : (fun (h' : List Ent) (r : SV) => ∃ s1', (∀ W F w, Rep W F h' w → Rep W F (trkE s1' b) w) ∧ N s1' r) [⟨.blk b, .cells [.map 1 s1.bo, .map 2 s1.bp] 140⟩, ⟨.blk s1.bo, .mapL (some .i64) encO (mset s1.of (.i .i64 pid) n)⟩, ⟨.blk s1.bp, .map1 none encT s1.ps (.s n) (some (.map 3 nb))⟩, ⟨.blk nb, .mapL (some .i64) encU (mset ms (.i .i64 pid) ())⟩, pk 0 (x.map setE ++ y.map setE)] (.tuple []) := by
      have hN := h 0
      rw [e] at hN
      refine ⟨_, fun W F w hr => ?_, hN⟩
      have h1 := Rep.forget1 (l := 2) rfl hr
      rw [hs] at h1
      have h2 := trk_map (v := (nb, ms)) (v' := (nb, mset ms (.i .i64 pid) ())) rfl h1
      have h3 := trk_close (n := n) (v := (nb, mset ms (.i .i64 pid) ())) (t := []) h2
      unfold trkE
      dsimp only
      rw [hset]
      simpa using h3
    repeat' first
      | exact rfl
      | exact fin
      | (refine ⟨n, rfl, ?_⟩)
      | (refine ⟨(), rfl, ?_⟩)
      | apply And.intro
      | fail
end Go.Proofs.Ytihajdkipkfiiaa

/- YtihajdkipkfiiaaLayT -/
/- Layings of the kit's contracts for slices.Sorted and maps.Keys at this program, in plain words. -/
namespace Go.Proofs.Ytihajdkipkfiiaa
open Go.Shelf
def keysT_ren : Go.Shelf.Ren := ⟨fun | 7 => 81 | 10 => 101 | n => n, fun | 23 => 119 | 26 => 3 | 3 => 145 | 28 => 61 | 0 => 0 | 27 => 60 | 33 => 30 | 4 => 4 | n => n, fun | n => n⟩
theorem keysT : Go.Proofs.SlLaysZI.n7 Try.prog keysT_ren := {
  mixed := by kernel_rfl
  f7 := ⟨Try.f81.name, by decide, Try.func81.trans (congrArg some (by kernel_rfl))⟩
  f10 := ⟨Try.f101.name, by decide, Try.func101.trans (congrArg some (by kernel_rfl))⟩
  t0 := Try.underlying0
  a0 := Try.isAgg0
  z0 := Try.sizeOf0
  v0 := Try.zeroValue0
  t4 := Try.underlying4
  a4 := Try.isAgg4
  z4 := Try.sizeOf4
  v4 := Try.zeroValue4
  t23 := Try.underlying119
  a23 := Try.isAgg119
  z23 := Try.sizeOf119
  v23 := Try.zeroValue119
  t26 := Try.underlying3
  a26 := Try.isAgg3
  z26 := Try.sizeOf3
  v26 := Try.zeroValue3
  t27 := Try.underlying60
  a27 := Try.isAgg60
  z27 := Try.sizeOf60
  v27 := Try.zeroValue60
  t28 := Try.underlying61
  a28 := Try.isAgg61
  z28 := Try.sizeOf61
  v28 := Try.zeroValue61
  t33 := Try.underlying30
  a33 := Try.isAgg30
  z33 := Try.sizeOf30
  v33 := Try.zeroValue30 }
end Go.Proofs.Ytihajdkipkfiiaa

/- YtihajdkipkfiiaaTrk2 -/
/- track.Track: Add, Fork, Unit, New, Pids. -/
namespace Go.Proofs.Ytihajdkipkfiiaa
open Go Go.RowKit
set_option linter.unusedVariables false
set_option linter.unusedSimpArgs false
set_option linter.unnecessarySimpa false
set_option maxHeartbeats 0
open Go.Maps Go.Sort Go.Shelf
theorem setN_selfT {α : Type 1} {l : Nat} {v : α} : ∀ {h : List α}, nth h l = some v → setN h l v = h := by
  induction l with
  | zero => intro h hl; cases h <;> simp [nth, setN] at hl ⊢; exact hl.symm
  | succ l ih => intro h hl; cases h <;> simp [nth, setN] at hl ⊢; exact ih hl

theorem srtN_ok {fI T : Nat} (hT : T = 3) (hI : CtrOk Try.prog 80 (srtIC fI T)) (hg : ∃ fn, Try.prog.funcs[fI]? = some fn ∧ (fn.name == "runtime.NumGoroutine") = false ∧ ∃ c, fn.body = some c)
    (hK : ∀ (w : World) (b : Nat), b < w.heap.size → w.cell? ⟨b, 0, none⟩ = some (.map none) → SeqGives Fence.wide 2 Try.prog fI #[.pointer (some ⟨b, 0, none⟩)] encZ (fun ss => ss = []) 0 w) : CtrOk Try.prog 80 (srtNC fI T) := by
  subst hT
  intro args hs N h
  unfold srtNC at h
  split at h
  case h_2 => exact h.elim
  rename_i f lb b
  obtain ⟨hf, h⟩ := h
  split at h
  case h_3 => exact h.elim
  · rename_i b' lm rm T' hlb
    refine hI _ hs N ?_
    unfold srtIC
    exact ⟨hf, by rw [hlb]; exact h⟩
  · rename_i b' T' hlb
    subst hf
    obtain ⟨rfl, h⟩ := h
    intro W F w hr
    obtain ⟨fn, g1, g2, c, g3⟩ := hg
    have hcell : w.cell? ⟨b', 0, none⟩ = some (.map none) := by rw [hr.cells hlb]; rfl
    have hb : b' < w.heap.size := World.block_lt_of_cell? _ _ hcell
    have hseq := hK w b' hb hcell
    have cS := AnyZI.sorted_in sortedI Fence.wide 5 trivial trivial trivial trivial rfl (by omega) (sortsI _) (enters_of Try.func100 (by kernel_rfl) rfl) f #[.pointer (some ⟨b', 0, none⟩)] trivial (enters_of g1 g2 g3) _ _ (by unfold maxLen; omega) (by omega) _ hseq
    refine Calls.mono ((callsIn_wide (n := 5)).1 cS) ?_
    rintro e w' ⟨v, ss, rfl, hS, hrow, hnil, hbel⟩
    subst hS
    have hm : ([] : List Int).mergeSort leI = [] := by simp
    rcases hrow.2 with ⟨rfl, h0⟩ | ⟨g, cap, cur, rfl, hge, hgb, hle, hcap, hsz, htk⟩
    · refine ⟨_, _, h none 0, rfl, ?_⟩
      have hr' : Rep W F hs w' := hr.move fun L hL => hL.below hbel
      exact Rep.nilvec _ (sz := 1) (enc := encI1) 0 (fun _ => rfl) hr'
    · refine ⟨_, _, h (some ⟨g, 0, none⟩) cap, rfl, ?_⟩
      refine hr.new (c := [(g, .cells cur _ (0, 0))]) ⟨⟨by simp [flatV], by simp, .inr ⟨g, 0, cur, rfl, rfl, by have := hsz; simp at this; omega, by simp [flatV]⟩⟩, fun _ => rfl⟩ fun L hL => hL.grow hbel hge hgb
theorem tkT0_ok : AllOk Try.prog tkT0 := ⟨inl_ok trivial hmT Try.func81 (by kernel_rfl),
  srtN_ok rfl (srtI_ok rfl ⟨_, Try.func101, by kernel_rfl, _, rfl⟩ (fun w b rm nn D0 h1 h2 h3 => AnyZI.keys_gives (ρ := keysT_ren) { keysT with } Fence.wide _ trivial rfl (by omega) b rm nn D0 w h1 h2 h3)) ⟨_, Try.func101, by kernel_rfl, _, rfl⟩
    (fun w b h1 h2 => AnyZI.keys_gives_nil (ρ := keysT_ren) { keysT with } Fence.wide _ trivial rfl b w h1 h2),
  inl_ok trivial hmT Try.func79 (by kernel_rfl), trivial⟩
theorem tAdd_ok : CtrOk Try.prog 31 (adtC trkE taddM) := adt_ok fun b s rest N h => by
  unfold taddM at h
  split at h
  case h_2 => exact h.elim
  rename_i n pid
  cases hg : mget s.of (.i .i64 pid) with
  | some m =>
    have e : tAdd s n pid 0 = (s, 190) := by simp only [tAdd, hg, Option.isSome_some, Bool.true_or]
    have h := h 0
    rw [e] at h
    refine Spec.pre (hs' := [⟨.blk b, .cells [.map 1 s.bo, .map 2 s.bp] 140⟩, ⟨.blk s.bo, .map1 (some .i64) encO s.of (.i .i64 pid) (some (.str m))⟩, ⟨.blk s.bp, .mapL none encT s.ps⟩, pk 0 (s.ps.map setE)]) (fun W F w hr => Rep.know1 (l := 1) (.i .i64 pid) (some (.str m)) rfl rfl (by rw [hg]; rfl) hr) rfl ?_
    refine Spec.of_G 31 Try.func31 (c := bodyOf Try.f31) (by kernel_rfl) (by kernel_rfl) (Nat.le_of_ble_eq_true rfl) fun W F => ?_
    refine G_run (kc := false) (ss := []) (Cs := []) trivial hmT 600 ?_
    rw [tAdd_there]
    exact ⟨rfl, ⟨rfl, rfl, rfl⟩, s, fun W F w hr => Rep.forget1 (l := 1) rfl hr, h⟩
  | none =>
    refine Spec.pre (hs' := [⟨.blk b, .cells [.map 1 s.bo, .map 2 s.bp] 140⟩, ⟨.blk s.bo, .map1 (some .i64) encO s.of (.i .i64 pid) none⟩, ⟨.blk s.bp, .mapL none encT s.ps⟩, pk 0 (s.ps.map setE)]) (fun W F w hr => Rep.know1 (l := 1) (.i .i64 pid) none rfl rfl (by rw [hg]; rfl) hr) rfl ?_
    refine Spec.of_G 31 Try.func31 (c := bodyOf Try.f31) (by kernel_rfl) (by kernel_rfl) (Nat.le_of_ble_eq_true rfl) fun W F => ?_
    refine G_run (kc := false) (ss := [4]) (Cs := []) trivial hmT 600 ?_
    rw [tAdd_start]
    refine ⟨rfl, ⟨rfl, rfl, rfl⟩, ?_⟩
    cases h1 : sEq n ⟨#[]⟩ with
    | true =>
      have e : tAdd s n pid 0 = (s, 190) := by simp only [tAdd, h1, Bool.or_true, Bool.true_or]
      have h := h 0
      rw [e] at h
      exact ⟨s, fun W F w hr => Rep.forget1 (l := 1) rfl hr, h⟩
    | false =>
      cases h2 : decide (pid < 2) with
      | true =>
        have e : tAdd s n pid 0 = (s, 190) := by simp only [tAdd, h2, Bool.or_true]
        have h := h 0
        rw [e] at h
        exact ⟨s, fun W F w hr => Rep.forget1 (l := 1) rfl hr, h⟩
      | false =>
        have e : ∀ nb, tAdd s n pid nb = (tPut s n pid nb, 0) := fun nb => by simp only [tAdd, hg, h1, h2, Option.isSome_none, Bool.or_self]
        refine G_live 31 [(0, .ptr 0 b 0), (1, .str n), (2, .int .i64 pid)] [pkA b trkE s] rfl ⟨rfl, rfl, rfl, trivial⟩ (fun w hr => Rep.pkA1 (Rep.forget1 (l := 1) rfl hr)) fun u => ?_
        refine G_run (kc := false) (ss := []) (Cs := [(78, adtC trkE tputM)]) ⟨tPut_ok, trivial⟩ hmT 900 ?_
        rw [tAdd_end]
        have hto : tOk s pid := fun m hm => by rw [hg] at hm; cases hm
        have hgo : (tGone s pid).1 = s := by simp only [tGone, hg]
        refine ⟨rfl, rfl, rfl, HEq.rfl, hto, fun nb => ?_⟩
        have h := h nb
        rw [e] at h
        rw [hgo]
        exact ⟨tPut s n pid nb, fun W F w hr => hr.unpkA1, h⟩
theorem tFork_ok : CtrOk Try.prog 32 (adtC trkE tforkM) := adt_ok fun b s rest N h => by
  unfold tforkM at h
  split at h
  case h_2 => exact h.elim
  rename_i pid c
  cases hg : mget s.of (.i .i64 pid) with
  | none =>
    have e : tFork s pid c 0 = (s, 190) := by simp only [tFork, hg]
    have h := h 0
    rw [e] at h
    refine Spec.pre (hs' := [⟨.blk b, .cells [.map 1 s.bo, .map 2 s.bp] 140⟩, ⟨.blk s.bo, .map1 (some .i64) encO s.of (.i .i64 pid) none⟩, ⟨.blk s.bp, .mapL none encT s.ps⟩, pk 0 (s.ps.map setE)]) (fun W F w hr => Rep.know1 (l := 1) (.i .i64 pid) none rfl rfl (by rw [hg]; rfl) hr) rfl ?_
    refine Spec.of_G 24 Try.func32 (c := bodyOf Try.f32) (by kernel_rfl) (by kernel_rfl) (Nat.le_of_ble_eq_true rfl) fun W F => ?_
    refine G_run (kc := false) (ss := []) (Cs := []) trivial hmT 600 ?_
    rw [tFork_none]
    exact ⟨rfl, ⟨rfl, rfl, rfl⟩, s, fun W F w hr => Rep.forget1 (l := 1) rfl hr, h⟩
  | some n =>
    have e : ∀ nb, tFork s pid c nb = tAdd s n c nb := fun nb => by simp only [tFork, hg]
    refine Spec.pre (hs' := [⟨.blk b, .cells [.map 1 s.bo, .map 2 s.bp] 140⟩, ⟨.blk s.bo, .map1 (some .i64) encO s.of (.i .i64 pid) (some (.str n))⟩, ⟨.blk s.bp, .mapL none encT s.ps⟩, pk 0 (s.ps.map setE)]) (fun W F w hr => Rep.know1 (l := 1) (.i .i64 pid) (some (.str n)) rfl rfl (by rw [hg]; rfl) hr) rfl ?_
    refine Spec.of_G 24 Try.func32 (c := bodyOf Try.f32) (by kernel_rfl) (by kernel_rfl) (Nat.le_of_ble_eq_true rfl) fun W F => ?_
    refine G_run (kc := false) (ss := [4]) (Cs := []) trivial hmT 600 ?_
    rw [tFork_some]
    refine ⟨rfl, ⟨rfl, rfl, rfl⟩, ?_⟩
    refine G_live 24 [(0, .ptr 0 b 0), (2, .int .i64 c), (7, .str n)] [pkA b trkE s] rfl ⟨rfl, rfl, rfl, trivial⟩ (fun w hr => Rep.pkA1 (Rep.forget1 (l := 1) rfl hr)) fun u => ?_
    refine G_run (kc := false) (ss := []) (Cs := [(31, adtC trkE taddM)]) ⟨tAdd_ok, trivial⟩ hmT 900 ?_
    rw [tFork_end]
    refine ⟨rfl, rfl, rfl, HEq.rfl, fun nb => ?_⟩
    have h := h nb
    rw [e] at h
    exact ⟨(tAdd s n c nb).1, fun W F w hr => hr.unpkA1, h⟩
theorem tUnit_ok : CtrOk Try.prog 56 (adtC trkE tunitM) := adt_ok fun b s rest N h => by
  unfold tunitM at h
  split at h
  case h_2 => exact h.elim
  rename_i pid
  cases hg : mget s.of (.i .i64 pid) with
  | none =>
    rw [hg] at h
    refine Spec.pre (hs' := [⟨.blk b, .cells [.map 1 s.bo, .map 2 s.bp] 140⟩, ⟨.blk s.bo, .map1 (some .i64) encO s.of (.i .i64 pid) none⟩, ⟨.blk s.bp, .mapL none encT s.ps⟩, pk 0 (s.ps.map setE)]) (fun W F w hr => Rep.know1 (l := 1) (.i .i64 pid) none rfl rfl (by rw [hg]; rfl) hr) rfl ?_
    refine Spec.of_G 19 Try.func56 (c := bodyOf Try.f56) (by kernel_rfl) (by kernel_rfl) (Nat.le_of_ble_eq_true rfl) fun W F => ?_
    refine G_run (kc := false) (ss := []) (Cs := []) trivial hmT 600 ?_
    rw [tUnit_none]
    exact ⟨rfl, ⟨rfl, rfl, rfl⟩, s, fun W F w hr => Rep.forget1 (l := 1) rfl hr, h⟩
  | some n =>
    rw [hg] at h
    refine Spec.pre (hs' := [⟨.blk b, .cells [.map 1 s.bo, .map 2 s.bp] 140⟩, ⟨.blk s.bo, .map1 (some .i64) encO s.of (.i .i64 pid) (some (.str n))⟩, ⟨.blk s.bp, .mapL none encT s.ps⟩, pk 0 (s.ps.map setE)]) (fun W F w hr => Rep.know1 (l := 1) (.i .i64 pid) (some (.str n)) rfl rfl (by rw [hg]; rfl) hr) rfl ?_
    refine Spec.of_G 19 Try.func56 (c := bodyOf Try.f56) (by kernel_rfl) (by kernel_rfl) (Nat.le_of_ble_eq_true rfl) fun W F => ?_
    refine G_run (kc := false) (ss := []) (Cs := []) trivial hmT 600 ?_
    rw [tUnit_some]
    exact ⟨rfl, ⟨rfl, rfl, rfl⟩, s, fun W F w hr => Rep.forget1 (l := 1) rfl hr, h⟩
theorem tNew_ok : CtrOk Try.prog 30 newTC := by
  intro args hs N h
  unfold newTC at h
  split at h
  · refine Spec.at (hp := []) (args' := []) (Post' := fun h' r => ∃ b bo bp, h' = [pkA b trkE ⟨bo, bp, [], []⟩] ∧ r = .ptr 0 b 0) [] rfl rfl ?_ rfl ?_
    · refine Spec.up ?_
      refine Spec.of_G 5 Try.func30 (c := bodyOf Try.f30) (by kernel_rfl) (by kernel_rfl) (Nat.le_of_ble_eq_true rfl) fun W F => ?_
      refine G_run (kc := false) (ss := []) (Cs := []) trivial hmT 600 ?_
      rw [tNew_run]
      refine fun bo bp => ⟨⟨rfl, rfl⟩, rfl, fun b => ?_⟩
      refine ⟨[pkA b trkE ⟨bo, bp, [], []⟩], .ptr 0 b 0, fun W F w hr => ?_, rfl, b, bo, bp, rfl, rfl⟩
      have h1 := Rep.mapOf (l := 0) encO [] rfl rfl hr
      have h2 := Rep.mapOf (l := 1) encT [] rfl rfl h1
      have h4 := Rep.pick (π := [2, 0, 1]) (by decide) rfl h2
      have h5 := Rep.cellsEq (l := 0) (cs' := [.map 1 bo, .map 2 bp]) rfl (by rfl) h4
      have h6 : Rep W F (pk 0 [] :: _) w := Rep.pk 0 (h := []) h5
      have h7 := Rep.pick (π := [1, 2, 3, 0]) (by decide) rfl h6
      exact Rep.pkA1 h7
    · rintro h' r ⟨b, bo, bp, rfl, rfl⟩
      refine ⟨Nat.zero_le _, .ptr (lenN hs) b 0, rfl, ?_⟩
      have := h b bo bp
      simpa [putBack, appE_eq, snoc_eq] using this
  · exact h.elim
theorem tPids_ok : CtrOk Try.prog 34 pidsC := by
  intro args hs N h
  unfold pidsC at h
  split at h
  case h_2 => exact h.elim
  rename_i l b n
  split at h
  case h_2 => exact h.elim
  rename_i b' σ' p s hl
  obtain ⟨rfl, rfl, hp, hw, hN⟩ := h
  cases hp
  simp only [cast_eq] at hw hN
  refine Spec.at (hp := [pkA b' trkE s]) (args' := [.ptr 0 b' 0, .str n]) (Post' := fun h' r => ∃ ao cap bx, h' = [pkA b' trkE s, ⟨.sl ao cap, .vecL 3 1 encI1 (pidsL s n) 0⟩, ⟨.blk bx, .cells [.vec (lenN hs) ao ((pidsL s n)).length cap] 32⟩] ∧ r = .func (.func 99) [] [.ptr 2 bx 0]) [l] (by simp [distinct]) (by simp [pickE, hl, pkA]) ?_ rfl ?_
  · refine Spec.up ?_
    cases hx : mget s.ps (.s n) with
    | none =>
      have e : pidsL s n = [] := by simp only [pidsL, hx]
      rw [e]
      refine Spec.pre (hs' := [⟨.blk b', .cells [.map 1 s.bo, .map 2 s.bp] 140⟩, ⟨.blk s.bo, .mapL (some .i64) encO s.of⟩, ⟨.blk s.bp, .map1 none encT s.ps (.s n) none⟩, pk 0 (s.ps.map setE)]) (fun W F w hr => Rep.know1 (l := 2) (.s n) none rfl rfl (by rw [hx]; rfl) hr.unpkA1) rfl ?_
      refine Spec.of_G 14 Try.func34 (c := bodyOf Try.f34) (by kernel_rfl) (by kernel_rfl) (Nat.le_of_ble_eq_true rfl) fun W F => ?_
      refine G_run (kc := true) (ss := []) tkT0_ok hmT 600 ?_
      rw [tPids_none]
      have fin : ∀ (ao : Option Addr) (cap b1 bx : Nat), up (fun h' r => ∃ ao cap bx, h' = [pkA b' trkE s, ⟨.sl ao cap, .vecL 3 1 encI1 [] 0⟩, ⟨.blk bx, .cells [.vec (lenN hs) ao ([] : List Int).length cap] 32⟩] ∧ r = .func (.func 99) [] [.ptr 2 bx 0]) [⟨.blk b', .cells [.map 1 s.bo, .map 2 s.bp] 140⟩, ⟨.blk s.bo, .mapL (some .i64) encO s.of⟩, ⟨.blk s.bp, .map1 none encT s.ps (.s n) none⟩, pk 0 (s.ps.map setE), ⟨.blk b1, .cells [.raw (.map none)] 119⟩, ⟨.sl ao cap, .vecL 3 1 encI1 [] 0⟩, ⟨.blk bx, .cells [.vec 5 ao 0 cap] 32⟩] (.func (.func 99) [] [.ptr 6 bx 0]) := fun ao cap b1 bx => by
        refine ⟨[pkA b' trkE s, ⟨.sl ao cap, .vecL 3 1 encI1 [] 0⟩, ⟨.blk bx, .cells [.vec (lenN hs) ao ([] : List Int).length cap] 32⟩], .func (.func 99) [] [.ptr 2 bx 0], fun W F w hr => ?_, rfl, ao, cap, bx, rfl, rfl⟩
        have h1 := Rep.forget1 (l := 2) rfl hr
        have h2 := Rep.pick (π := [0, 1, 2, 3, 5, 6]) (by decide) rfl h1
        have h3 := Rep.cellsEq (l := 5) (cs' := [.vec (lenN hs) ao ([] : List Int).length cap]) rfl (by rfl) h2
        exact Rep.pkA (S := trkE) (s := s) (t := [_, _]) h3
      repeat' first
        | exact rfl
        | exact HEq.rfl
        | exact fin _ _ _ _
        | apply And.intro
        | (refine fun _ => ?_)
        | fail
    | some v =>
      obtain ⟨nb, ms⟩ := v
      have hwf := hw _ hx
      have e : pidsL s n = sortI ms := by simp only [pidsL, hx]
      rw [e]
      obtain ⟨x, y, hsp, _, _⟩ := es_split hx
      refine Spec.pre (hs' := [⟨.blk b', .cells [.map 1 s.bo, .map 2 s.bp] 140⟩, ⟨.blk s.bo, .mapL (some .i64) encO s.of⟩, ⟨.blk s.bp, .map1 none encT s.ps (.s n) (some (.map 3 nb))⟩, ⟨.blk nb, .mapL (some .i64) encU ms⟩, pk 0 (x.map setE ++ y.map setE)]) (fun W F w hr => Rep.know1 (l := 2) (.s n) (some (.map 3 nb)) rfl rfl (by rw [hx]; rfl) (trk_open hsp hr.unpkA1)) rfl ?_
      refine Spec.of_G 14 Try.func34 (c := bodyOf Try.f34) (by kernel_rfl) (by kernel_rfl) (Nat.le_of_ble_eq_true rfl) fun W F => ?_
      refine G_run (kc := true) (ss := []) tkT0_ok hmT 600 ?_
      rw [tPids_some]
      have fin : ∀ (ao : Option Addr) (cap b1 bx : Nat), up (fun h' r => ∃ ao cap bx, h' = [pkA b' trkE s, ⟨.sl ao cap, .vecL 3 1 encI1 (sortI ms) 0⟩, ⟨.blk bx, .cells [.vec (lenN hs) ao (sortI ms).length cap] 32⟩] ∧ r = .func (.func 99) [] [.ptr 2 bx 0]) [⟨.blk b', .cells [.map 1 s.bo, .map 2 s.bp] 140⟩, ⟨.blk s.bo, .mapL (some .i64) encO s.of⟩, ⟨.blk s.bp, .map1 none encT s.ps (.s n) (some (.map 3 nb))⟩, ⟨.blk nb, .mapL (some .i64) encU ms⟩, pk 0 (x.map setE ++ y.map setE), ⟨.blk b1, .cells [.map 3 nb] 119⟩, ⟨.sl ao cap, .vecL 3 1 encI1 (sortI ms) 0⟩, ⟨.blk bx, .cells [.vec 6 ao (sortI ms).length cap] 32⟩] (.func (.func 99) [] [.ptr 7 bx 0]) := fun ao cap b1 bx => by
        refine ⟨[pkA b' trkE s, ⟨.sl ao cap, .vecL 3 1 encI1 (sortI ms) 0⟩, ⟨.blk bx, .cells [.vec (lenN hs) ao (sortI ms).length cap] 32⟩], .func (.func 99) [] [.ptr 2 bx 0], fun W F w hr => ?_, rfl, ao, cap, bx, rfl, rfl⟩
        have h1 := Rep.forget1 (l := 2) rfl hr
        have h0 := Rep.intoP (p := [⟨.blk b', .cells [.map 1 s.bo, .map 2 s.bp] 140⟩, ⟨.blk s.bo, .mapL (some .i64) encO s.of⟩, ⟨.blk s.bp, .mapL none encT s.ps⟩]) (t := [_, _, _]) (e := setE (.s n, (nb, ms))) h1
        have e2 : x.map setE ++ setE (.s n, (nb, ms)) :: y.map setE = s.ps.map setE := by rw [hsp]; simp
        rw [e2] at h0
        have h2 := Rep.pick (π := [0, 1, 2, 3, 5, 6]) (by decide) rfl h0
        have h3 := Rep.cellsEq (l := 5) (cs' := [.vec (lenN hs) ao (sortI ms).length cap]) rfl (by rfl) h2
        exact Rep.pkA (S := trkE) (s := s) (t := [_, _]) h3
      repeat' first
        | exact rfl
        | exact HEq.rfl
        | exact hwf
        | exact fin _ _ _ _
        | apply And.intro
        | (refine fun _ => ?_)
        | fail
  · rintro h' r ⟨ao, cap, bx, rfl, rfl⟩
    refine ⟨by simp [lenN], .func (.func 99) [] [.ptr (lenN hs + 1) bx 0], rfl, ?_⟩
    have e0 : setN hs l (pkA b' trkE s) = hs := setN_selfT hl
    have := hN ao cap bx
    simpa [putBack, appE_eq, snoc_eq, e0] using this
end Go.Proofs.Ytihajdkipkfiiaa

/- YtihajdkipkfiiaaValIC -/
/- slices.Values: going through a row. -/
namespace Go.Proofs.Ytihajdkipkfiiaa
open Go Go.RowKit
set_option linter.unusedVariables false
set_option linter.unusedSimpArgs false
set_option linter.unnecessarySimpa false
set_option maxHeartbeats 0

/-- The function that is called for each element: R i: the entries ahead of element i; Stop: where it says 'false'. -/
def valIY (fv : Value) (xs : List Int) (R : Nat → List Ent) (Stop : List Ent → Prop) : YCtr := fun v args hs N => v = fv ∧ match hs with
  | e0 :: e1 :: e2 :: rest => ∃ i x, xs[i]? = some x ∧ args = [.int .i64 x] ∧ e2 = pk 0 (R i) ∧ N (e0 :: e1 :: pk 0 (R (i + 1)) :: rest) (.bool true) ∧ ∀ R', Stop R' → N (e0 :: e1 :: pk 0 R' :: rest) (.bool false)
  | _ => False
end Go.Proofs.Ytihajdkipkfiiaa

/- YtihajdkipkfiiaaValI1Run -/
namespace Go.Proofs.Ytihajdkipkfiiaa
set_option linter.unusedVariables false
open Go Go.RowKit
set_option maxHeartbeats 0
set_option maxRecDepth 100000
set_option maxRecDepth 100000

theorem vI_start (K : List Frm → Sy → Prop) (X : Code → Sy → Prop) (E : Sy → Prop) (xs : List Int) (bx : Nat) (ao : Option Addr) (cap : Nat) (fv : Value) (R : Nat → List Ent) (Stop : List Ent → Prop) : (runR Try.prog [] (valIY fv xs R Stop) true [] K X E 300 [.code (bodyOf Try.f99)] ⟨padTo 16 [.raw fv, .ptr 0 bx 0], [⟨.blk bx, .cells [.vec 1 ao xs.length cap] 32⟩, ⟨.sl ao cap, .vecL 3 1 encI1 xs 0⟩, pk 0 (R 0)]⟩) = (
bx = bx ∧
 K (frm [] (bodyOf Try.f99) [1, 0] [])
  (Sy.mk (SV.raw fv :: (SV.ptr 0 bx 0 :: (rawE (SV.vec 1 ao (List.length xs) cap :: (SV.int IntKind.i64 (↑(List.length xs) : Int) :: (SV.int IntKind.i64 (0 : Int) :: (rawE [] 8)))) 3)))
   [Ent.mk (Loc.blk bx) (SObj.cells [SV.vec 1 ao (List.length xs) cap] (32 : TypeId)), Ent.mk (Loc.sl ao cap) (SObj.vecL (3 : TypeId) 1 encI1 xs (0 : Int)),
    pk 0 (R 0)])) := by kernel_rfl


theorem vI_body (K : List Frm → Sy → Prop) (X : Code → Sy → Prop) (E : Sy → Prop) (J : Act → World → Prop) (xs : List Int) (bx : Nat) (ao : Option Addr) (cap : Nat) (fv : Value) (R : Nat → List Ent) (Stop : List Ent → Prop) (i : Nat) (u : Nat → Value) : (runR Try.prog [] (valIY fv xs R Stop) true [] K X E 900 (frm [J] (bodyOf Try.f99) [1, 0, 0] []) ⟨mkT u 16 0 [(0, .raw fv), (1, .ptr 0 bx 0), (5, .vec 1 ao xs.length cap), (6, .int .i64 (xs.length : Int)), (7, .int .i64 (i : Int))], [⟨.blk bx, .cells [.vec 1 ao xs.length cap] 32⟩, ⟨.sl ao cap, .vecL 3 1 encI1 xs 0⟩, pk 0 (R i)]⟩) = (
match decide ((↑i : Int) < (↑(List.length xs) : Int)) with
| true =>
 (ao = ao ∧ cap = cap ∧ List.length xs = List.length xs ∧ (0 : Int) ≤ (↑i : Int) ∧ (↑i : Int) < (↑(List.length xs) : Int)) ∧
  (Addr.blkD ao = Addr.blkD ao ∧ Addr.offD ao = Addr.offD ao ∧ 1 = 1 ∧ Int.toNat (↑i : Int) < List.length xs) ∧
   fv = fv ∧
    ∃ (i_1 : Nat),
     ∃ (x : Int),
      xs[i_1]? = some x ∧
       [SV.int IntKind.i64 (List.getD xs (Int.toNat (↑i : Int)) (0 : Int))] = [SV.int IntKind.i64 x] ∧
        pk 0 (R i) = pk 0 (R i_1) ∧
         K [Frm.loop J, Frm.blk 0]
          (Sy.mk (SV.raw fv :: (SV.ptr 0 bx 0 :: (SV.raw (u 2) :: (SV.raw (u 3) :: (SV.int IntKind.i64 (List.getD xs (Int.toNat (↑i : Int)) (0 : Int)) :: (SV.vec 1 ao (List.length xs) cap :: (SV.int IntKind.i64 (↑(List.length xs) : Int) :: (SV.int IntKind.i64 (IntKind.wrap IntKind.i64 ((↑i : Int) + (1 : Int))) :: (SV.bool true :: (SV.eptr 1 (Addr.blkD ao) (Addr.offD ao) 1 (Int.toNat (↑i : Int)) 0 :: (SV.int IntKind.i64 (List.getD xs (Int.toNat (↑i : Int)) (0 : Int)) :: (SV.raw fv :: (SV.int IntKind.i64 (List.getD xs (Int.toNat (↑i : Int)) (0 : Int)) :: (SV.bool true :: (SV.bool false :: (SV.int IntKind.i64 (IntKind.wrap IntKind.i64 ((↑i : Int) + (1 : Int))) :: []))))))))))))))))
           [Ent.mk (Loc.blk bx) (SObj.cells [SV.vec 1 ao (List.length xs) cap] (32 : TypeId)), Ent.mk (Loc.sl ao cap) (SObj.vecL (3 : TypeId) 1 encI1 xs (0 : Int)),
            pk 0 (R (i_1 + 1))]) ∧
          ∀ (R' : List Ent),
           Stop R' →
            X Code.ret
             (Sy.mk (SV.raw fv :: (SV.ptr 0 bx 0 :: (SV.raw (u 2) :: (SV.raw (u 3) :: (SV.int IntKind.i64 (List.getD xs (Int.toNat (↑i : Int)) (0 : Int)) :: (SV.vec 1 ao (List.length xs) cap :: (SV.int IntKind.i64 (↑(List.length xs) : Int) :: (SV.int IntKind.i64 (↑i : Int) :: (SV.bool true :: (SV.eptr 1 (Addr.blkD ao) (Addr.offD ao) 1 (Int.toNat (↑i : Int)) 0 :: (SV.int IntKind.i64 (List.getD xs (Int.toNat (↑i : Int)) (0 : Int)) :: (SV.raw fv :: (SV.int IntKind.i64 (List.getD xs (Int.toNat (↑i : Int)) (0 : Int)) :: (SV.bool false :: (SV.bool true :: (SV.raw (u 15) :: []))))))))))))))))
              [Ent.mk (Loc.blk bx) (SObj.cells [SV.vec 1 ao (List.length xs) cap] (32 : TypeId)), Ent.mk (Loc.sl ao cap) (SObj.vecL (3 : TypeId) 1 encI1 xs (0 : Int)),
               pk 0 R'])
| false =>
 E
  (Sy.mk (SV.raw fv :: (SV.ptr 0 bx 0 :: (rawR u 2 (SV.vec 1 ao (List.length xs) cap :: (SV.int IntKind.i64 (↑(List.length xs) : Int) :: (SV.int IntKind.i64 (↑i : Int) :: (SV.bool false :: (rawR u 9 [] 7))))) 3)))
   [Ent.mk (Loc.blk bx) (SObj.cells [SV.vec 1 ao (List.length xs) cap] (32 : TypeId)), Ent.mk (Loc.sl ao cap) (SObj.vecL (3 : TypeId) 1 encI1 xs (0 : Int)), pk 0 (R i)])) := by kernel_rfl
end Go.Proofs.Ytihajdkipkfiiaa

/- YtihajdkipkfiiaaValI -/
/- slices.Values: going through a row. -/
namespace Go.Proofs.Ytihajdkipkfiiaa
open Go Go.RowKit
set_option linter.unusedVariables false
set_option linter.unusedSimpArgs false
set_option linter.unnecessarySimpa false
set_option maxHeartbeats 0
theorem hmValI : Try.prog.follows .mixedOrders = true := by kernel_rfl

/-- What the function says of one element. -/
def OneI (fv : Value) (xs : List Int) (R : Nat → List Ent) (Stop : List Ent → Prop) : Prop := ∀ i x, xs[i]? = some x → VSpec Try.prog fv [pk 0 (R i)] [.int .i64 x] fun h r => (h = [pk 0 (R (i + 1))] ∧ r = .bool true) ∨ ∃ R', Stop R' ∧ h = [pk 0 R'] ∧ r = .bool false
theorem valIY_ok {fv : Value} {xs : List Int} {R : Nat → List Ent} {Stop : List Ent → Prop} (hV : OneI fv xs R Stop) : YOk Try.prog (valIY fv xs R Stop) := by
  rintro v args hs N ⟨rfl, h⟩
  split at h
  case h_2 => exact h.elim
  rename_i e0 e1 e2 rest
  obtain ⟨i, x, hx, rfl, rfl, hN1, hN2⟩ := h
  refine VSpec.at [2] rfl rfl (hV i x hx) fun h' r hp => ?_
  rcases hp with ⟨rfl, rfl⟩ | ⟨R', hs, rfl, rfl⟩
  · exact ⟨Nat.le_refl _, by simpa [putBack, setN, appE_eq] using hN1⟩
  · exact ⟨Nat.le_refl _, by simpa [putBack, setN, appE_eq] using hN2 R' hs⟩
/-- slices.Values: for each element, as1 far as1 the function wants them. -/
theorem valI_iter {fv : Value} {xs : List Int} {bx : Nat} {ao : Option Addr} {cap : Nat} {R : Nat → List Ent} {Stop : List Ent → Prop} (hx : xs.length ≤ 1000000) (hV : OneI fv xs R Stop) :
    Spec Try.prog 99 [⟨.blk bx, .cells [.vec 1 ao xs.length cap] 32⟩, ⟨.sl ao cap, .vecL 3 1 encI1 xs 0⟩, pk 0 (R 0)] [.raw fv, .ptr 0 bx 0] fun h' r => r = .tuple [] ∧ (h' = [⟨.blk bx, .cells [.vec 1 ao xs.length cap] 32⟩, ⟨.sl ao cap, .vecL 3 1 encI1 xs 0⟩, pk 0 (R xs.length)] ∨ ∃ R', Stop R' ∧ h' = [⟨.blk bx, .cells [.vec 1 ao xs.length cap] 32⟩, ⟨.sl ao cap, .vecL 3 1 encI1 xs 0⟩, pk 0 R']) := by
  refine Spec.up ?_
  refine Spec.of_GR 16 Try.func99 (c := bodyOf Try.f99) (by kernel_rfl) (by kernel_rfl) (Nat.le_of_ble_eq_true rfl) fun W F => ?_
  refine runR_sound (kc := true) (ss := []) (Cs := []) (fun _ _ h => h) trivial (valIY_ok hV) hmValI Ends.fn 300 _ _ ?_
  rw [vI_start]
  try refine ⟨rfl, ?_⟩
  refine GR_loopAt (ι := Nat) [] (bodyOf Try.f99) [1, 0] 16 (fun i => [(0, .raw fv), (1, .ptr 0 bx 0), (5, .vec 1 ao xs.length cap), (6, .int .i64 (xs.length : Int)), (7, .int .i64 (i : Int))]) (fun i => [⟨.blk bx, .cells [.vec 1 ao xs.length cap] 32⟩, ⟨.sl ao cap, .vecL 3 1 encI1 xs 0⟩, pk 0 (R i)]) (fun i => i ≤ xs.length) (fun i => xs.length - i) 0 (by kernel_rfl) (fun J => by kernel_rfl) (Nat.zero_le _) rfl ⟨rfl, rfl, rfl, rfl, rfl, trivial⟩ (fun w hw => hw) fun i hi u => ?_
  simp only [List.nil_append, List.cons_append]
  refine runR_sound (kc := true) (ss := []) (Cs := []) (fun _ _ h => h) trivial (valIY_ok hV) hmValI Ends.fn 900 _ _ ?_
  rw [vI_body]
  cases hlt : decide ((i : Int) < (xs.length : Int)) with
  | false =>
    simp only [decide_eq_false_iff_not] at hlt
    obtain rfl : i = xs.length := by omega
    exact ⟨_, _, fun W F w hr => hr, rfl, rfl, .inl rfl⟩
  | true =>
    simp only [decide_eq_true_eq] at hlt
    have hi' : i < xs.length := by omega
    have t2 : IntKind.wrap .i64 ((i : Int) + 1) = ((i + 1 : Nat) : Int) := IntWalk.i64_in _ (by omega)
    have hk : xs.getD i 0 = xs[i] := by simp [List.getD, hi']
    rw [Int.toNat_natCast, hk]
    refine ⟨⟨rfl, rfl, rfl, by omega, by omega⟩, ⟨rfl, rfl, rfl, hi'⟩, ?_⟩
    repeat' first
      | exact rfl
      | (refine ⟨i, xs[i], List.getElem?_eq_getElem hi', rfl, rfl, ?_, fun R' hst => ?_⟩)
      | (refine GR_back (i + 1) (by omega) (by omega) rfl ⟨rfl, rfl, rfl, rfl, congrArg (Value.int .i64) t2, trivial⟩ (fun w hr => hr))
      | exact ⟨_, _, fun W F w hr => hr, rfl, rfl, .inr ⟨R', hst, rfl⟩⟩
      | apply And.intro
      | fail
end Go.Proofs.Ytihajdkipkfiiaa

/- YtihajdkipkfiiaaTk2Run -/
namespace Go.Proofs.Ytihajdkipkfiiaa
set_option linter.unusedVariables false
open Go Go.RowKit
set_option maxHeartbeats 0
set_option maxRecDepth 100000
set_option maxRecDepth 100000

theorem as_start (K : List Frm → Sy → Prop) (X : Code → Sy → Prop) (E : Sy → Prop) (xs : List Int) (bx : Nat) (ao : Option Addr) (cap : Nat) : (runR Try.prog [] (noY) true [] K X E 300 [.code (bodyOf Try.f102)] ⟨padTo 13 [.raw (.slice none 0 0), .func (.func 99) [] [.ptr 0 bx 0]], [⟨.blk bx, .cells [.vec 1 ao xs.length cap] 32⟩, ⟨.sl ao cap, .vecL 3 1 encI1 xs 0⟩]⟩) = (
true = true ∧
 ∀ (b : Nat),
  K (frm [] (bodyOf Try.f102) [1, 0, 1, 0] [])
   (Sy.mk (SV.raw (Value.slice (@none Addr) 0 0) :: (SV.func (Fn.func (99 : FuncId)) [] [SV.ptr 0 bx 0] :: (SV.ptr 2 b 0 :: (SV.raw (Value.tuple #[]) :: (SV.raw (Value.slice (@none Addr) 0 0) :: (SV.raw (Value.tuple #[]) :: (SV.func (Fn.func (99 : FuncId)) [] [SV.ptr 0 bx 0] :: (rawE [] 6))))))))
    [Ent.mk (Loc.blk bx) (SObj.cells [SV.vec 1 ao (List.length xs) cap] (32 : TypeId)), Ent.mk (Loc.sl ao cap) (SObj.vecL (3 : TypeId) 1 encI1 xs (0 : Int)),
     Ent.mk (Loc.blk b) (SObj.cells [SV.raw (Value.slice (@none Addr) 0 0)] 32)])) := by kernel_rfl


theorem as_asg (K : List Frm → Sy → Prop) (X : Code → Sy → Prop) (E : Sy → Prop) (got : List Int) (c D l : Nat) (ag : Option Addr) (cg : Nat) (rc : Loop) (x : Int) (u : Nat → Value) : (runR Try.prog [] (noY) true [] K X E 60 ([.code (rfA (codeAt (bodyOf Try.f102) [1, 0, 1, 0]))]) ⟨mkT u 13 0 [(2, .ptr 0 c 0), (7, .int .i64 x)], [⟨.blk c, .cells [.vec 1 ag got.length cg] 32⟩, ⟨.sl ag cg, .vecL 3 1 encI1 got 0⟩, dent D true, lp l rc .ready none]⟩) = (
E
 (Sy.mk (SV.raw (u 0) :: (SV.raw (u 1) :: (SV.ptr 0 c 0 :: (SV.raw (u 3) :: (SV.raw (u 4) :: (SV.int IntKind.i64 x :: (SV.raw (u 6) :: (SV.int IntKind.i64 x :: (rawR u 8 [] 5)))))))))
  [Ent.mk (Loc.blk c) (SObj.cells [SV.vec 1 ag (List.length got) cg] (32 : TypeId)), Ent.mk (Loc.sl ag cg) (SObj.vecL (3 : TypeId) 1 encI1 got (0 : Int)), dent D true,
   lp l rc LoopState.ready (@none Code)])) := by kernel_rfl


theorem as_body (K : List Frm → Sy → Prop) (X : Code → Sy → Prop) (E : Sy → Prop) (got : List Int) (c D l : Nat) (ag : Option Addr) (cg : Nat) (rc : Loop) (x : Int) (u : Nat → Value) : (runR Try.prog [] (noY) true [] K X E 600 ([.code (rfB (codeAt (bodyOf Try.f102) [1, 0, 1, 0]))]) ⟨mkT u 13 0 [(2, .ptr 0 c 0), (5, .int .i64 x)], [⟨.blk c, .cells [.vec 1 ag got.length cg] 32⟩, ⟨.sl ag cg, .vecL 3 1 encI1 got 0⟩, dent D true, lp l rc .busy none]⟩) = (
c = c ∧
 (true = true ∧ 1 = 1 ∧ 0 < 1 ∧ 1 ≤ 16777216) ∧
  ∀ (b : Nat),
   (ag = ag ∧
    cg = cg ∧
     List.length got = List.length got ∧
      some (Addr.mk b 0 (@none Nat)) = some (Addr.mk b 0 (@none Nat)) ∧
       (3 : TypeId) = 3 ∧
        1 = 1 ∧
         1 = 1 ∧
          0 < 1 ∧ true = true ∧ (List.length got + 1) * 8 ≤ 140737488355328 ∧ List.length got + 1 ≤ 9223372036854775807) ∧
    ∃ (es : List Int),
     List.length es = 1 ∧
      List.flatMap encI1 es = [SV.int IntKind.i64 x] ∧
       ∀ (ao2 : Option Addr) (cap2 : Nat),
        List.length got + 1 ≤ cap2 →
         (c = c ∧ true = true ∧ 1 = 1 ∧ 1 ≤ 1) ∧
          E
           (Sy.mk (SV.raw (u 0) :: (SV.raw (u 1) :: (SV.ptr 0 c 0 :: (SV.raw (u 3) :: (SV.raw (u 4) :: (SV.int IntKind.i64 x :: (SV.raw (u 6) :: (SV.raw (u 7) :: (SV.vec 1 ag (List.length got) cg :: (SV.int IntKind.i64 x :: (SV.vec 4 (some (Addr.mk b 0 (@none Nat))) 1 1 :: (SV.vec 1 ao2 (List.length got + 1) cap2 :: (SV.raw (u 12) :: [])))))))))))))
            [Ent.mk (Loc.blk c) (SObj.cells [SV.vec 1 ao2 (List.length got + 1) cap2] (32 : TypeId)),
             Ent.mk (Loc.sl ao2 cap2) (SObj.vecL (3 : TypeId) 1 encI1 (got ++ es) (0 : Int)), dent D true, lp l rc LoopState.busy (@none Code),
             Ent.mk (Loc.blk b) (SObj.cells [SV.int IntKind.i64 x] 3)])) := by kernel_rfl


theorem as_end (K : List Frm → Sy → Prop) (E : Sy → Prop) (N : List Ent → SV → Prop) (xs : List Int) (bx : Nat) (ao : Option Addr) (cap : Nat) (got : List Int) (c D l : Nat) (ag : Option Addr) (cg : Nat) (rc : Loop) (u : Nat → Value) : (runR Try.prog [] (noY) true [] K (endMX Try.prog Try.f102.results.toList D 2 N) E 600 ((frm [] (bodyOf Try.f102) [1, 0, 1, 0] []).tail) ⟨mkT u 13 0 [(2, .ptr 0 c 0)], [⟨.blk c, .cells [.vec 1 ag got.length cg] 32⟩, ⟨.sl ag cg, .vecL 3 1 encI1 got 0⟩, dent D true, lp l rc .exhausted none, ⟨.blk bx, .cells [.vec 1 ao xs.length cap] 32⟩, ⟨.sl ao cap, .vecL 3 1 encI1 xs 0⟩]⟩) = (
c = c ∧
 some (dent D true) = some (dent D true) ∧
  N
   [Ent.mk (Loc.blk c) (SObj.cells [SV.vec 1 ag (List.length got) cg] (32 : TypeId)), Ent.mk (Loc.sl ag cg) (SObj.vecL (3 : TypeId) 1 encI1 got (0 : Int)), dent D false,
    lp l rc LoopState.exhausted (@none Code), Ent.mk (Loc.blk bx) (SObj.cells [SV.vec 1 ao (List.length xs) cap] (32 : TypeId)),
    Ent.mk (Loc.sl ao cap) (SObj.vecL (3 : TypeId) 1 encI1 xs (0 : Int))]
   (SV.vec 1 ag (List.length got) cg)) := by kernel_rfl
end Go.Proofs.Ytihajdkipkfiiaa

/- YtihajdkipkfiiaaTk3Run -/
namespace Go.Proofs.Ytihajdkipkfiiaa
set_option linter.unusedVariables false
open Go Go.RowKit
set_option maxHeartbeats 0
set_option maxRecDepth 100000
set_option maxRecDepth 100000

theorem tf1_run (K : List Frm → Sy → Prop) (N : List Ent → SV → Prop) (got : List Int) (c : Nat) (ag : Option Addr) (cg : Nat) (x : Int) : (run Try.prog [] true [] K (retP Try.prog Try.f35.results.toList N) 600 [.code (bodyOf Try.f35)] ⟨padTo 11 [.int .i64 x, .ptr 0 c 0], [⟨.blk c, .cells [.vec 1 ag got.length cg] 32⟩, ⟨.sl ag cg, .vecL 3 1 encI1 got 0⟩]⟩) = (
c = c ∧
 (true = true ∧ 1 = 1 ∧ 0 < 1 ∧ 1 ≤ 16777216) ∧
  ∀ (b : Nat),
   (ag = ag ∧
    cg = cg ∧
     List.length got = List.length got ∧
      some (Addr.mk b 0 (@none Nat)) = some (Addr.mk b 0 (@none Nat)) ∧
       (3 : TypeId) = 3 ∧
        1 = 1 ∧
         1 = 1 ∧
          0 < 1 ∧ true = true ∧ (List.length got + 1) * 8 ≤ 140737488355328 ∧ List.length got + 1 ≤ 9223372036854775807) ∧
    ∃ (es : List Int),
     List.length es = 1 ∧
      List.flatMap encI1 es = [SV.int IntKind.i64 x] ∧
       ∀ (ao2 : Option Addr) (cap2 : Nat),
        List.length got + 1 ≤ cap2 →
         (c = c ∧ true = true ∧ 1 = 1 ∧ 1 ≤ 1) ∧
          c = c ∧
           N
            [Ent.mk (Loc.blk c) (SObj.cells [SV.vec 1 ao2 (List.length got + 1) cap2] (32 : TypeId)),
             Ent.mk (Loc.sl ao2 cap2) (SObj.vecL (3 : TypeId) 1 encI1 (got ++ es) (0 : Int)), Ent.mk (Loc.blk b) (SObj.cells [SV.int IntKind.i64 x] 3)]
            (SV.bool (decide ((↑(List.length got + 1) : Int) < (200 : Int))))) := by kernel_rfl
end Go.Proofs.Ytihajdkipkfiiaa

