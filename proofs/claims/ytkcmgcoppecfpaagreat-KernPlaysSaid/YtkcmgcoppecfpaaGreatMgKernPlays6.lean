import Derived.Shelf.SlIterI.Nil
import Derived.Shelf.SlIter.Nil
import Derived.Shelf.SortM.Plain
import Derived.Shelf.SortM.SortNone
import Derived.Ground.GgzProg
import Derived.Ground.SlgmProg
import Derived.Shelf.SlGeneric
import Derived.Test.YtkcmgcoppecfpaaGreatProg
import Derived.Test.YtkcmgcoppecfpaaGreatMgKernPlays5
import Derived.Test.YtkcmgcoppecfpaaGreatMgKernPlays4
set_option linter.unusedVariables false
set_option linter.unusedSimpArgs false
set_option linter.unnecessarySimpa false
set_option maxHeartbeats 0
set_option maxRecDepth 100000
/- Layings of the kit's contracts for slices.Sorted and maps.Keys at this program, in plain words. -/
namespace Go.Proofs.YtkcmgcoppecfpaaGreat
open Go.Shelf
def keysP_ren : Go.Shelf.Ren := ⟨fun | 7 => 81 | 10 => 94 | n => n, fun | 23 => 117 | 26 => 3 | 3 => 115 | 28 => 110 | 0 => 0 | 27 => 109 | 33 => 108 | 4 => 4 | n => n, fun | n => n⟩
theorem keysP : Go.Proofs.SlLaysZI.n7 Tryz.prog keysP_ren := {
  mixed := by kernel_rfl
  f7 := ⟨Tryz.f81.name, by decide, Tryz.func81.trans (congrArg some (by kernel_rfl))⟩
  f10 := ⟨Tryz.f94.name, by decide, Tryz.func94.trans (congrArg some (by kernel_rfl))⟩
  t0 := Tryz.underlying0
  a0 := Tryz.isAgg0
  z0 := Tryz.sizeOf0
  v0 := Tryz.zeroValue0
  t4 := Tryz.underlying4
  a4 := Tryz.isAgg4
  z4 := Tryz.sizeOf4
  v4 := Tryz.zeroValue4
  t23 := Tryz.underlying117
  a23 := Tryz.isAgg117
  z23 := Tryz.sizeOf117
  v23 := Tryz.zeroValue117
  t26 := Tryz.underlying3
  a26 := Tryz.isAgg3
  z26 := Tryz.sizeOf3
  v26 := Tryz.zeroValue3
  t27 := Tryz.underlying109
  a27 := Tryz.isAgg109
  z27 := Tryz.sizeOf109
  v27 := Tryz.zeroValue109
  t28 := Tryz.underlying110
  a28 := Tryz.isAgg110
  z28 := Tryz.sizeOf110
  v28 := Tryz.zeroValue110
  t33 := Tryz.underlying108
  a33 := Tryz.isAgg108
  z33 := Tryz.sizeOf108
  v33 := Tryz.zeroValue108 }
def sortedI_ren : Go.Shelf.Ren := ⟨fun | 6 => 80 | 8 => 92 | 9 => 93 | 11 => 102 | 13 => 104 | 12 => 103 | 23 => 117 | 24 => 118 | 14 => 108 | 15 => 109 | 16 => 110 | 17 => 111 | 18 => 112 | 19 => 113 | 20 => 114 | 21 => 115 | 22 => 116 | 25 => 123 | 26 => 124 | 27 => 125 | 28 => 126 | 29 => 127 | 30 => 128 | 31 => 131 | n => n, fun | 26 => 3 | 28 => 110 | 24 => 47 | 0 => 0 | 3 => 3 | 37 => 181 | 48 => 195 | 50 => 169 | 4 => 4 | 40 => 188 | 39 => 187 | 45 => 128 | 5 => 5 | 9 => 9 | 51 => 198 | 55 => 202 | 57 => 206 | 58 => 62 | 33 => 108 | n => n, fun | n => n⟩
theorem sortedI : Go.Proofs.SlLaysZI.n6 Tryz.prog sortedI_ren := {
  mixed := by kernel_rfl
  f6 := ⟨Tryz.f80.name, by decide, Tryz.func80.trans (congrArg some (by kernel_rfl))⟩
  f8 := ⟨Tryz.f92.name, by decide, Tryz.func92.trans (congrArg some (by kernel_rfl))⟩
  f11 := ⟨Tryz.f102.name, by decide, Tryz.func102.trans (congrArg some (by kernel_rfl))⟩
  t0 := Tryz.underlying0
  a0 := Tryz.isAgg0
  z0 := Tryz.sizeOf0
  v0 := Tryz.zeroValue0
  t24 := Tryz.underlying47
  a24 := Tryz.isAgg47
  z24 := Tryz.sizeOf47
  v24 := Tryz.zeroValue47
  t26 := Tryz.underlying3
  a26 := Tryz.isAgg3
  z26 := Tryz.sizeOf3
  v26 := Tryz.zeroValue3
  t28 := Tryz.underlying110
  a28 := Tryz.isAgg110
  z28 := Tryz.sizeOf110
  v28 := Tryz.zeroValue110
  i26 := by kernel_rfl }
def sortI_lay_ren : Go.Shelf.Ren := ⟨fun | 5 => 93 | 8 => 104 | 7 => 103 | 19 => 117 | 20 => 118 | 10 => 108 | 11 => 109 | 12 => 110 | 13 => 111 | 14 => 112 | 15 => 113 | 16 => 114 | 17 => 115 | 18 => 116 | 30 => 123 | 31 => 124 | 32 => 125 | 33 => 126 | 34 => 127 | 35 => 128 | 40 => 131 | n => n, fun | 23 => 47 | 25 => 3 | 3 => 3 | 32 => 181 | 22 => 47 | 0 => 0 | 44 => 195 | 46 => 169 | 4 => 4 | 36 => 188 | 35 => 187 | 41 => 128 | 5 => 5 | 9 => 9 | 53 => 198 | 57 => 202 | 63 => 206 | 64 => 62 | n => n, fun | n => n⟩
theorem sortI_lay : Go.Proofs.SlLaysM.n5 Tryz.prog sortI_lay_ren := {
  mixed := by kernel_rfl
  f5 := ⟨Tryz.f93.name, by decide, Tryz.func93.trans (congrArg some (by kernel_rfl))⟩
  f7 := ⟨Tryz.f103.name, by decide, Tryz.func103.trans (congrArg some (by kernel_rfl))⟩
  f8 := Tryz.func104.trans (congrArg some (by kernel_rfl))
  f10 := ⟨Tryz.f108.name, by decide, Tryz.func108.trans (congrArg some (by kernel_rfl))⟩
  f11 := ⟨Tryz.f109.name, by decide, Tryz.func109.trans (congrArg some (by kernel_rfl))⟩
  f12 := ⟨Tryz.f110.name, by decide, Tryz.func110.trans (congrArg some (by kernel_rfl))⟩
  f13 := ⟨Tryz.f111.name, by decide, Tryz.func111.trans (congrArg some (by kernel_rfl))⟩
  f14 := ⟨Tryz.f112.name, by decide, Tryz.func112.trans (congrArg some (by kernel_rfl))⟩
  f15 := ⟨Tryz.f113.name, by decide, Tryz.func113.trans (congrArg some (by kernel_rfl))⟩
  f16 := ⟨Tryz.f114.name, by decide, Tryz.func114.trans (congrArg some (by kernel_rfl))⟩
  f17 := ⟨Tryz.f115.name, by decide, Tryz.func115.trans (congrArg some (by kernel_rfl))⟩
  f18 := ⟨Tryz.f116.name, by decide, Tryz.func116.trans (congrArg some (by kernel_rfl))⟩
  f19 := Tryz.func117.trans (congrArg some (by kernel_rfl))
  f20 := Tryz.func118.trans (congrArg some (by kernel_rfl))
  f30 := ⟨Tryz.f123.name, by decide, Tryz.func123.trans (congrArg some (by kernel_rfl))⟩
  f31 := Tryz.func124.trans (congrArg some (by kernel_rfl))
  f32 := Tryz.func125.trans (congrArg some (by kernel_rfl))
  f33 := ⟨Tryz.f126.name, by decide, Tryz.func126.trans (congrArg some (by kernel_rfl))⟩
  f34 := ⟨Tryz.f127.name, by decide, Tryz.func127.trans (congrArg some (by kernel_rfl))⟩
  f35 := ⟨Tryz.f128.name, by decide, Tryz.func128.trans (congrArg some (by kernel_rfl))⟩
  f40 := ⟨Tryz.f131.name, by decide, Tryz.func131.trans (congrArg some (by kernel_rfl))⟩
  t0 := Tryz.underlying0
  a0 := Tryz.isAgg0
  z0 := Tryz.sizeOf0
  v0 := Tryz.zeroValue0
  t3 := Tryz.underlying3
  a3 := Tryz.isAgg3
  z3 := Tryz.sizeOf3
  v3 := Tryz.zeroValue3
  t4 := Tryz.underlying4
  a4 := Tryz.isAgg4
  z4 := Tryz.sizeOf4
  v4 := Tryz.zeroValue4
  t5 := Tryz.underlying5
  a5 := Tryz.isAgg5
  z5 := Tryz.sizeOf5
  v5 := Tryz.zeroValue5
  t9 := Tryz.underlying9
  a9 := Tryz.isAgg9
  z9 := Tryz.sizeOf9
  v9 := Tryz.zeroValue9
  t22 := Tryz.underlying47
  a22 := Tryz.isAgg47
  z22 := Tryz.sizeOf47
  v22 := Tryz.zeroValue47
  t23 := Tryz.underlying47
  a23 := Tryz.isAgg47
  z23 := Tryz.sizeOf47
  v23 := Tryz.zeroValue47
  t25 := Tryz.underlying3
  a25 := Tryz.isAgg3
  z25 := Tryz.sizeOf3
  v25 := Tryz.zeroValue3
  t32 := Tryz.underlying181
  a32 := Tryz.isAgg181
  z32 := Tryz.sizeOf181
  v32 := Tryz.zeroValue181
  t35 := Tryz.underlying187
  a35 := Tryz.isAgg187
  z35 := Tryz.sizeOf187
  v35 := Tryz.zeroValue187
  t36 := Tryz.underlying188
  a36 := Tryz.isAgg188
  z36 := Tryz.sizeOf188
  v36 := Tryz.zeroValue188
  t41 := Tryz.underlying128
  a41 := Tryz.isAgg128
  z41 := Tryz.sizeOf128
  v41 := Tryz.zeroValue128
  t44 := Tryz.underlying195
  a44 := Tryz.isAgg195
  z44 := Tryz.sizeOf195
  v44 := Tryz.zeroValue195
  t46 := Tryz.underlying169
  a46 := Tryz.isAgg169
  z46 := Tryz.sizeOf169
  v46 := Tryz.zeroValue169
  t53 := Tryz.underlying198
  a53 := Tryz.isAgg198
  z53 := Tryz.sizeOf198
  v53 := Tryz.zeroValue198
  t57 := Tryz.underlying202
  a57 := Tryz.isAgg202
  z57 := Tryz.sizeOf202
  v57 := Tryz.zeroValue202
  t63 := Tryz.underlying206
  a63 := Tryz.isAgg206
  z63 := Tryz.sizeOf206
  v63 := Tryz.zeroValue206
  t64 := Tryz.underlying62
  a64 := Tryz.isAgg62
  z64 := Tryz.sizeOf62
  v64 := Tryz.zeroValue62 }
end Go.Proofs.YtkcmgcoppecfpaaGreat

/- slices.Sorted(maps.Keys(m)) at whole numbers: the keys, rising. -/
namespace Go.Proofs.YtkcmgcoppecfpaaGreat
open Go Go.RowKit Go.Maps Go.Sort Go.Shelf

def encI1 (x : Int) : List SV := [.int .i64 x]
def keyInt : Key → Int
  | .i _ n => n
  | .s _ => 0
def sortI {β : Type} (es : List (Key × β)) : List Int := (es.map fun e => keyInt e.1).mergeSort leI
def wfI {β : Type} (es : List (Key × β)) : Prop := keysOk es ∧ es.length ≤ 1000000000 ∧ ∀ e ∈ es, (Lit.int .i64 (keyInt e.1)).wf = true
def srtIC (fI T : Nat) : Ctr := fun args hs N => match args with
  | [.func (.func f) [] [.ptr lb b 0]] => f = fI ∧ match nth hs lb with
    | some ⟨.blk b', .cells [.map lm rm] _⟩ => match nth hs lm with
      | some ⟨.blk rm', .mapL (β := β) kd enc es⟩ => (b' = b ∧ rm' = rm ∧ kd = some .i64 ∧ wfI es) ∧ ∀ ao cap, N (snoc hs ⟨.sl ao cap, .vecL T 1 encI1 (sortI es) 0⟩) (.vec (lenN hs) ao (sortI es).length cap)
      | _ => False
    | _ => False
  | _ => False

theorem H.below {W w w' : World} {L : List Ch} (h : H W w L) (hb : Below w.heap.size w w') : H W w' L :=
  ⟨h.st.trans ⟨hb.os, hb.tape, hb.output, hb.size⟩, h.nd, fun b o hm => by
    have := h.get b o hm
    rw [hb.block b (Array.getElem?_eq_some_iff.1 this).1]; exact this, h.fresh, fun b hlt => by rw [hb.block b (Nat.lt_of_lt_of_le hlt h.st.size)]; exact h.old b hlt⟩
theorem H.grow {W w w' : World} {L : List Ch} {g : Nat} {o : Obj} (h : H W w L) (hb : Below w.heap.size w w') (hg : w.heap.size ≤ g) (ho : w'.heap[g]? = some o) : H W w' ([(g, o)] :: L) := by
  have h1 := h.below hb
  refine ⟨h1.st, ?_, fun b q hm => ?_, fun b q hm => ?_, h1.old⟩
  · simp only [List.flatten_cons, List.singleton_append, List.map_cons, List.nodup_cons]
    refine ⟨fun hm => ?_, h.nd⟩
    obtain ⟨⟨b, q⟩, hm, he⟩ := List.mem_map.1 hm
    have he : b = g := he
    have := (Array.getElem?_eq_some_iff.1 (h.get b q hm)).1
    omega
  · simp only [List.flatten_cons, List.singleton_append, List.mem_cons, Prod.mk.injEq] at hm
    rcases hm with ⟨rfl, rfl⟩ | hm
    · exact ho
    · exact h1.get b q hm
  · simp only [List.flatten_cons, List.singleton_append, List.mem_cons, Prod.mk.injEq] at hm
    rcases hm with ⟨rfl, rfl⟩ | hm
    · exact Nat.le_trans h.st.size hg
    · exact h1.fresh b q hm

theorem owns_of {w : World} {rm : Nat} {ents : List MapEntry} {clock k : Nat} {β : Type} {enc : β → SV} {es : List (Key × β)} (hk : Tryz.prog.underlying k = some (.int .i64)) (hh : w.heap[rm]? = some (.map ents.toArray clock)) (hst : Stamped ents clock) (he : ents.map (fun e => (e.key, e.val)) = es.map fun e => (den e.1.sv, den (enc e.2)))
    (hks : ∀ e ∈ es, keyKind e.1 = some .i64) (hw : wfI es) : ∃ D0 : DataW Unit, w.ownsMap Tryz.prog k (fun _ => some (.lit (.bool true), [])) rm es.length D0 ∧ (intKeys D0).Perm (es.map fun e => keyInt e.1) ∧ Maps.size D0 = es.length := by
  have hlen : ents.length = es.length := by simpa using congrArg List.length he
  have hkey : ∀ e ∈ es, den e.1.sv = .int .i64 (keyInt e.1) := fun e hm => by
    have := hks e hm
    cases hq : e.1 with
    | i kk n => rw [hq] at this; cases this; rfl
    | s _ => rw [hq] at this; cases this
  have hmem : ∀ x ∈ ents, ∃ e ∈ es, x.key = .int .i64 (keyInt e.1) := fun x hx => by
    have : (x.key, x.val) ∈ es.map fun e => (den e.1.sv, den (enc e.2)) := by rw [← he]; exact List.mem_map.2 ⟨x, hx, rfl⟩
    obtain ⟨e, h1, h2⟩ := List.mem_map.1 this
    simp only [Prod.mk.injEq] at h2
    exact ⟨e, h1, by rw [← h2.1, hkey e h1]⟩
  have hrg : ∀ x ∈ ents, ∃ n, x.key = .int .i64 n ∧ WideElems.rd Tryz.prog k (fun _ => some ((.lit (.bool true) : DataW Unit), [])) x = some (.int .i64 n, .lit (.bool true)) := fun x hx => by
    obtain ⟨e, h1, h2⟩ := hmem x hx
    exact ⟨_, h2, by simp [WideElems.rd, h2, keyOf_int_mk hk (hw.2.2 e h1)]⟩
  have hkeys : ents.map (fun x => x.key) = es.map fun e => (Value.int .i64 (keyInt e.1)) := by
    have h1 := congrArg (List.map Prod.fst) he
    simp only [List.map_map, Function.comp_def] at h1
    rw [h1]
    exact List.map_congr_left fun e hm => hkey e hm
  refine ⟨_, ⟨ents.toArray, clock, hh, ⟨?_, ?_, ?_⟩, by simp [hlen], rfl⟩, ?_, ?_⟩
  · have := hw.2.1; simp [hlen, maxLen]; omega
  · refine (MapKept.stamped_iff _ _).2 ⟨by simpa using hst.2, by simpa using hst.1, ?_⟩
    have h1 : (ents.map (fun x => x.key)).Pairwise (· ≠ ·) := by
      rw [hkeys, List.pairwise_map]
      refine hw.1.imp_of_mem fun {a b} ha hb hab e => ?_
      injection e with _ e
      have h2 := hks a ha
      have h3 := hks b hb
      cases a with | mk ka va => cases b with | mk kb vb =>
      cases ka <;> cases kb <;> simp_all [keyKind, keyEq, keyInt]
    simpa [List.pairwise_map] using h1
  · intro x hx
    obtain ⟨n, _, h2⟩ := hrg x (by simpa using hx)
    exact ⟨_, h2⟩
  · show (((ents.toArray.toList.map (WideElems.rg Tryz.prog k _)).foldr DataW.insert []).map fun p => Go.intOf p.1).Perm _
    refine ((Go.WideShapes.sorted_perm _).map _).trans ?_
    simp only [List.map_map]
    have : ents.map ((fun p : Lit × DataW Unit => Go.intOf p.1) ∘ WideElems.rg Tryz.prog k (fun _ => some (.lit (.bool true), []))) = es.map fun e => keyInt e.1 := by
      have h1 : ents.map ((fun p : Lit × DataW Unit => Go.intOf p.1) ∘ WideElems.rg Tryz.prog k (fun _ => some (.lit (.bool true), []))) = (ents.map (fun x => x.key)).map fun v => match v with | .int _ n => n | _ => 0 := by
        rw [List.map_map]
        refine List.map_congr_left fun x hx => ?_
        obtain ⟨n, h2, h3⟩ := hrg x hx
        simp [WideElems.rg, h3, h2, Go.intOf]
      rw [h1, hkeys, List.map_map]
      rfl
    rw [this]
  · show ((ents.toArray.toList.map (WideElems.rg Tryz.prog k _)).foldr DataW.insert []).length = _
    rw [(Go.WideShapes.sorted_perm _).length_eq]; simp [hlen]

theorem sortsI (m : Nat) : AnyZI.SortsIn Tryz.prog sortedI_ren Fence.wide m :=
  ⟨fun blk off cap ss W hH hblk hsz => callsIn_wide.2 (AnyM.slices_Sort_int sortI_lay blk off cap ss W hH hblk hsz), fun p cap W => callsIn_wide.2 (AnyM.slices_Sort_int_none sortI_lay p cap W)⟩

theorem flat_one : ∀ l : List Int, flatV encI1 l = l.map encZ
  | [] => rfl
  | x :: l => by
    have := flat_one l
    unfold flatV at this ⊢
    simp only [List.flatMap_cons, List.map_cons, this]
    rfl
theorem srtI_ok {fI T : Nat} (hT : T = 3) (hg : ∃ fn, Tryz.prog.funcs[fI]? = some fn ∧ (fn.name == "runtime.NumGoroutine") = false ∧ ∃ c, fn.body = some c)
    (hK : ∀ (w : World) (b rm nn : Nat) (D0 : DataW Unit), b < w.heap.size → w.cell? ⟨b, 0, none⟩ = some (.map (some rm)) → w.ownsMap Tryz.prog 3 (fun _ => some (.lit (.bool true), [])) rm nn D0 →
      SeqGives Fence.wide 2 Tryz.prog fI #[.pointer (some ⟨b, 0, none⟩)] encZ (fun ss => ss.Perm (intKeys D0)) (Maps.size D0) w) : CtrOk Tryz.prog 80 (srtIC fI T) := by
  subst hT
  intro args hs N h
  unfold srtIC at h
  split at h
  case h_2 => exact h.elim
  rename_i f lb b
  obtain ⟨rfl, h⟩ := h
  split at h
  case h_2 => exact h.elim
  rename_i b' lm rm T' hlb
  split at h
  case h_2 => exact h.elim
  rename_i rm' β kd enc es hlm
  obtain ⟨⟨rfl, rfl, rfl, hw⟩, h⟩ := h
  intro W F w hr
  obtain ⟨fn, g1, g2, c, g3⟩ := hg
  have hcell : w.cell? ⟨b', 0, none⟩ = some (.map (some rm')) := by rw [hr.cells hlb]; rfl
  have hb : b' < w.heap.size := World.block_lt_of_cell? _ _ hcell
  obtain ⟨c0, L0, hc0, hH0, _⟩ := hr.get hlm
  obtain ⟨hks, ents, clock, rfl, hst, he⟩ := hc0
  obtain ⟨D0, o1, o2, o3⟩ := owns_of (k := 3) Tryz.underlying3 (hH0.heap .here) hst he hks hw
  have hseq := hK w b' rm' es.length D0 hb hcell o1
  have hlen := hw.2.1
  have cS := AnyZI.sorted_in sortedI Fence.wide 5 trivial trivial trivial trivial rfl (by omega) (sortsI _) (enters_of Tryz.func93 (by kernel_rfl) rfl) f #[.pointer (some ⟨b', 0, none⟩)] trivial (enters_of g1 g2 g3) _ _ (by rw [o3]; unfold maxLen; omega) (by rw [o3]; omega) _ hseq
  refine Calls.mono ((callsIn_wide (n := 5)).1 cS) ?_
  rintro e w' ⟨v, ss, rfl, hS, hrow, hnil, hbel⟩
  have hsort : ss.mergeSort leI = sortI es := mergeSort_of_perm_i (hS.trans o2)
  have hls : ss.length = (sortI es).length := by rw [← hsort, (List.mergeSort_perm ss leI).length_eq]
  have hflat : flatV encI1 (sortI es) = (sortI es).map encZ := flat_one (sortI es)
  rcases hrow.2 with ⟨rfl, h0⟩ | ⟨g, cap, cur, rfl, hge, hgb, hle, hcap, hsz, htk⟩
  · have hnl : sortI es = [] := List.eq_nil_of_length_eq_zero (by omega)
    refine ⟨_, _, h none 0, by rw [hnl]; rfl, ?_⟩
    have hr' : Rep W F hs w' := hr.move fun L hL => hL.below hbel
    rw [hnl]
    exact Rep.nilvec _ (sz := 1) (enc := encI1) 0 (fun _ => rfl) hr'
  · refine ⟨_, _, h (some ⟨g, 0, none⟩) cap, by rw [hls]; rfl, ?_⟩
    refine hr.new (c := [(g, .cells cur _ (0, 0))]) ⟨⟨by rw [hflat]; simp, by omega, .inr ⟨g, 0, cur, rfl, rfl, by omega, ?_⟩⟩, fun _ => rfl⟩ fun L hL => hL.grow hbel hge hgb
    have e1 : (sortI es).length * 1 = ss.length * 1 := by rw [hls]
    rw [List.drop_zero, hflat, e1, htk, ← hsort]
end Go.Proofs.YtkcmgcoppecfpaaGreat

/- Layings of the kit's contracts for slices.Sorted and maps.Keys at this program, in plain words. -/
namespace Go.Proofs.YtkcmgcoppecfpaaGreat
open Go.Shelf
def sortedS_ren : Go.Shelf.Ren := ⟨fun | 6 => 106 | 8 => 120 | 9 => 121 | 11 => 129 | 13 => 104 | 12 => 130 | 23 => 117 | 24 => 118 | 14 => 132 | 15 => 133 | 16 => 134 | 17 => 135 | 18 => 136 | 19 => 137 | 20 => 138 | 21 => 139 | 22 => 140 | 25 => 141 | 26 => 124 | 27 => 125 | 28 => 142 | 29 => 143 | 30 => 144 | 31 => 145 | n => n, fun | 26 => 9 | 28 => 173 | 24 => 102 | 0 => 0 | 3 => 3 | 37 => 181 | 48 => 195 | 50 => 169 | 4 => 4 | 40 => 188 | 39 => 187 | 45 => 128 | 5 => 5 | 9 => 9 | 51 => 198 | 55 => 202 | 57 => 206 | 58 => 62 | 33 => 105 | n => n, fun | n => n⟩
theorem sortedS : Go.Proofs.SlLaysZ.n6 Tryz.prog sortedS_ren := {
  mixed := by kernel_rfl
  f6 := ⟨Tryz.f106.name, by decide, Tryz.func106.trans (congrArg some (by kernel_rfl))⟩
  f8 := ⟨Tryz.f120.name, by decide, Tryz.func120.trans (congrArg some (by kernel_rfl))⟩
  f11 := ⟨Tryz.f129.name, by decide, Tryz.func129.trans (congrArg some (by kernel_rfl))⟩
  t0 := Tryz.underlying0
  a0 := Tryz.isAgg0
  z0 := Tryz.sizeOf0
  v0 := Tryz.zeroValue0
  t24 := Tryz.underlying102
  a24 := Tryz.isAgg102
  z24 := Tryz.sizeOf102
  v24 := Tryz.zeroValue102
  t26 := Tryz.underlying9
  a26 := Tryz.isAgg9
  z26 := Tryz.sizeOf9
  v26 := Tryz.zeroValue9
  t28 := Tryz.underlying173
  a28 := Tryz.isAgg173
  z28 := Tryz.sizeOf173
  v28 := Tryz.zeroValue173
  i26 := by kernel_rfl }
def sortS_lay_ren : Go.Shelf.Ren := ⟨fun | 6 => 121 | 8 => 104 | 9 => 130 | 19 => 117 | 20 => 118 | 21 => 132 | 22 => 133 | 23 => 134 | 24 => 135 | 25 => 136 | 26 => 137 | 27 => 138 | 28 => 139 | 29 => 140 | 36 => 141 | 31 => 124 | 32 => 125 | 37 => 142 | 38 => 143 | 39 => 144 | 41 => 145 | n => n, fun | 27 => 102 | 29 => 9 | 3 => 3 | 32 => 181 | 26 => 102 | 0 => 0 | 44 => 195 | 46 => 169 | 4 => 4 | 36 => 188 | 35 => 187 | 41 => 128 | 5 => 5 | 9 => 9 | 53 => 198 | 57 => 202 | 63 => 206 | 64 => 62 | n => n, fun | n => n⟩
theorem sortS_lay : Go.Proofs.SlLaysM.n6 Tryz.prog sortS_lay_ren := {
  mixed := by kernel_rfl
  f6 := ⟨Tryz.f121.name, by decide, Tryz.func121.trans (congrArg some (by kernel_rfl))⟩
  f8 := Tryz.func104.trans (congrArg some (by kernel_rfl))
  f9 := ⟨Tryz.f130.name, by decide, Tryz.func130.trans (congrArg some (by kernel_rfl))⟩
  f19 := Tryz.func117.trans (congrArg some (by kernel_rfl))
  f20 := Tryz.func118.trans (congrArg some (by kernel_rfl))
  f21 := ⟨Tryz.f132.name, by decide, Tryz.func132.trans (congrArg some (by kernel_rfl))⟩
  f22 := ⟨Tryz.f133.name, by decide, Tryz.func133.trans (congrArg some (by kernel_rfl))⟩
  f23 := ⟨Tryz.f134.name, by decide, Tryz.func134.trans (congrArg some (by kernel_rfl))⟩
  f24 := ⟨Tryz.f135.name, by decide, Tryz.func135.trans (congrArg some (by kernel_rfl))⟩
  f25 := ⟨Tryz.f136.name, by decide, Tryz.func136.trans (congrArg some (by kernel_rfl))⟩
  f26 := ⟨Tryz.f137.name, by decide, Tryz.func137.trans (congrArg some (by kernel_rfl))⟩
  f27 := ⟨Tryz.f138.name, by decide, Tryz.func138.trans (congrArg some (by kernel_rfl))⟩
  f28 := ⟨Tryz.f139.name, by decide, Tryz.func139.trans (congrArg some (by kernel_rfl))⟩
  f29 := ⟨Tryz.f140.name, by decide, Tryz.func140.trans (congrArg some (by kernel_rfl))⟩
  f31 := Tryz.func124.trans (congrArg some (by kernel_rfl))
  f32 := Tryz.func125.trans (congrArg some (by kernel_rfl))
  f36 := ⟨Tryz.f141.name, by decide, Tryz.func141.trans (congrArg some (by kernel_rfl))⟩
  f37 := ⟨Tryz.f142.name, by decide, Tryz.func142.trans (congrArg some (by kernel_rfl))⟩
  f38 := ⟨Tryz.f143.name, by decide, Tryz.func143.trans (congrArg some (by kernel_rfl))⟩
  f39 := ⟨Tryz.f144.name, by decide, Tryz.func144.trans (congrArg some (by kernel_rfl))⟩
  f41 := ⟨Tryz.f145.name, by decide, Tryz.func145.trans (congrArg some (by kernel_rfl))⟩
  t0 := Tryz.underlying0
  a0 := Tryz.isAgg0
  z0 := Tryz.sizeOf0
  v0 := Tryz.zeroValue0
  t3 := Tryz.underlying3
  a3 := Tryz.isAgg3
  z3 := Tryz.sizeOf3
  v3 := Tryz.zeroValue3
  t4 := Tryz.underlying4
  a4 := Tryz.isAgg4
  z4 := Tryz.sizeOf4
  v4 := Tryz.zeroValue4
  t5 := Tryz.underlying5
  a5 := Tryz.isAgg5
  z5 := Tryz.sizeOf5
  v5 := Tryz.zeroValue5
  t9 := Tryz.underlying9
  a9 := Tryz.isAgg9
  z9 := Tryz.sizeOf9
  v9 := Tryz.zeroValue9
  t26 := Tryz.underlying102
  a26 := Tryz.isAgg102
  z26 := Tryz.sizeOf102
  v26 := Tryz.zeroValue102
  t27 := Tryz.underlying102
  a27 := Tryz.isAgg102
  z27 := Tryz.sizeOf102
  v27 := Tryz.zeroValue102
  t29 := Tryz.underlying9
  a29 := Tryz.isAgg9
  z29 := Tryz.sizeOf9
  v29 := Tryz.zeroValue9
  t32 := Tryz.underlying181
  a32 := Tryz.isAgg181
  z32 := Tryz.sizeOf181
  v32 := Tryz.zeroValue181
  t35 := Tryz.underlying187
  a35 := Tryz.isAgg187
  z35 := Tryz.sizeOf187
  v35 := Tryz.zeroValue187
  t36 := Tryz.underlying188
  a36 := Tryz.isAgg188
  z36 := Tryz.sizeOf188
  v36 := Tryz.zeroValue188
  t41 := Tryz.underlying128
  a41 := Tryz.isAgg128
  z41 := Tryz.sizeOf128
  v41 := Tryz.zeroValue128
  t44 := Tryz.underlying195
  a44 := Tryz.isAgg195
  z44 := Tryz.sizeOf195
  v44 := Tryz.zeroValue195
  t46 := Tryz.underlying169
  a46 := Tryz.isAgg169
  z46 := Tryz.sizeOf169
  v46 := Tryz.zeroValue169
  t53 := Tryz.underlying198
  a53 := Tryz.isAgg198
  z53 := Tryz.sizeOf198
  v53 := Tryz.zeroValue198
  t57 := Tryz.underlying202
  a57 := Tryz.isAgg202
  z57 := Tryz.sizeOf202
  v57 := Tryz.zeroValue202
  t63 := Tryz.underlying206
  a63 := Tryz.isAgg206
  z63 := Tryz.sizeOf206
  v63 := Tryz.zeroValue206
  t64 := Tryz.underlying62
  a64 := Tryz.isAgg62
  z64 := Tryz.sizeOf62
  v64 := Tryz.zeroValue62 }
end Go.Proofs.YtkcmgcoppecfpaaGreat

/- slices.Sorted(maps.Keys(m)) at texts: the keys, rising. -/
namespace Go.Proofs.YtkcmgcoppecfpaaGreat
open Go Go.RowKit Go.Maps Go.Sort Go.Shelf

def encS1 (x : ByteArray) : List SV := [.str x]
def keyStr : Key → List UInt8
  | .i _ _ => []
  | .s b => b.data.toList
def ofB (l : List UInt8) : ByteArray := ⟨l.toArray⟩
def sortS {β : Type} (es : List (Key × β)) : List ByteArray := ((es.map fun e => keyStr e.1).mergeSort leB).map ofB
def wfS {β : Type} (es : List (Key × β)) : Prop := keysOk es ∧ es.length ≤ 1000000000 ∧ ∀ e ∈ es, (keyStr e.1).length ≤ maxLen
def srtSC (fI T : Nat) : Ctr := fun args hs N => match args with
  | [.func (.func f) [] [.ptr lb b 0]] => f = fI ∧ match nth hs lb with
    | some ⟨.blk b', .cells [.map lm rm] _⟩ => match nth hs lm with
      | some ⟨.blk rm', .mapL (β := β) kd enc es⟩ => (b' = b ∧ rm' = rm ∧ kd = none ∧ wfS es) ∧ ∀ ao cap, N (snoc hs ⟨.sl ao cap, .vecL T 1 encS1 (sortS es) ByteArray.empty⟩) (.vec (lenN hs) ao (sortS es).length cap)
      | _ => False
    | _ => False
  | _ => False

theorem ownsS_of {w : World} {rm : Nat} {ents : List MapEntry} {clock k : Nat} {β : Type} {enc : β → SV} {es : List (Key × β)} (hk : Tryz.prog.underlying k = some .string) (hh : w.heap[rm]? = some (.map ents.toArray clock)) (hst : Stamped ents clock) (he : ents.map (fun e => (e.key, e.val)) = es.map fun e => (den e.1.sv, den (enc e.2)))
    (hks : ∀ e ∈ es, keyKind e.1 = none) (hw : wfS es) : ∃ D0 : DataW Unit, w.ownsMap Tryz.prog k (fun _ => some (.lit (.bool true), [])) rm es.length D0 ∧ (strKeys D0).Perm (es.map fun e => keyStr e.1) ∧ Maps.size D0 = es.length := by
  have hlen : ents.length = es.length := by simpa using congrArg List.length he
  have hkey : ∀ e ∈ es, den e.1.sv = .string ⟨(keyStr e.1).toArray⟩ := fun e hm => by
    have := hks e hm
    cases hq : e.1 with
    | i kk n => rw [hq] at this; cases this
    | s b => simp [keyStr, Key.sv, den]
  have hmem : ∀ x ∈ ents, ∃ e ∈ es, x.key = .string ⟨(keyStr e.1).toArray⟩ := fun x hx => by
    have : (x.key, x.val) ∈ es.map fun e => (den e.1.sv, den (enc e.2)) := by rw [← he]; exact List.mem_map.2 ⟨x, hx, rfl⟩
    obtain ⟨e, h1, h2⟩ := List.mem_map.1 this
    simp only [Prod.mk.injEq] at h2
    exact ⟨e, h1, by rw [← h2.1, hkey e h1]⟩
  have hrg : ∀ x ∈ ents, ∃ n : List UInt8, x.key = .string ⟨n.toArray⟩ ∧ WideElems.rd Tryz.prog k (fun _ => some ((.lit (.bool true) : DataW Unit), [])) x = some (.string n, .lit (.bool true)) := fun x hx => by
    obtain ⟨e, h1, h2⟩ := hmem x hx
    refine ⟨_, h2, ?_⟩
    have hsz : (ByteArray.mk (keyStr e.1).toArray).size ≤ maxLen := by have := hw.2.2 e h1; simpa [ByteArray.size] using this
    have : Go.keyOf Tryz.prog k (.string ⟨(keyStr e.1).toArray⟩) = some (.string (keyStr e.1)) := by simp [Go.keyOf, hk, Go.mapKey, hsz]
    simp [WideElems.rd, h2, this]
  have hkeys : ents.map (fun x => x.key) = es.map fun e => (Value.string ⟨(keyStr e.1).toArray⟩) := by
    have h1 := congrArg (List.map Prod.fst) he
    simp only [List.map_map, Function.comp_def] at h1
    rw [h1]
    exact List.map_congr_left fun e hm => hkey e hm
  refine ⟨_, ⟨ents.toArray, clock, hh, ⟨?_, ?_, ?_⟩, by simp [hlen], rfl⟩, ?_, ?_⟩
  · have := hw.2.1; simp [hlen, maxLen]; omega
  · refine (MapKept.stamped_iff _ _).2 ⟨by simpa using hst.2, by simpa using hst.1, ?_⟩
    have h1 : (ents.map (fun x => x.key)).Pairwise (· ≠ ·) := by
      rw [hkeys, List.pairwise_map]
      refine hw.1.imp_of_mem fun {a b} ha hb hab e => ?_
      have e : keyStr a.1 = keyStr b.1 := by simpa using e
      have h2 := hks a ha
      have h3 := hks b hb
      cases a with | mk ka va => cases b with | mk kb vb =>
      cases ka with
      | i _ _ => cases h2
      | s x =>
        cases kb with
        | i _ _ => cases h3
        | s y =>
          have : x = y := by
            cases x; cases y
            simp [keyStr] at e
            rw [e]
          subst this
          simp [keyEq_self] at hab
    simpa [List.pairwise_map] using h1
  · intro x hx
    obtain ⟨n, _, h2⟩ := hrg x (by simpa using hx)
    exact ⟨_, h2⟩
  · show (((ents.toArray.toList.map (WideElems.rg Tryz.prog k _)).foldr DataW.insert []).map fun p => strOf p.1).Perm _
    refine ((Go.WideShapes.sorted_perm _).map _).trans ?_
    simp only [List.map_map]
    have : ents.map ((fun p : Lit × DataW Unit => strOf p.1) ∘ WideElems.rg Tryz.prog k (fun _ => some (.lit (.bool true), []))) = es.map fun e => keyStr e.1 := by
      have h1 : ents.map ((fun p : Lit × DataW Unit => strOf p.1) ∘ WideElems.rg Tryz.prog k (fun _ => some (.lit (.bool true), []))) = (ents.map (fun x => x.key)).map fun v => match v with | .string s => s.data.toList | _ => [] := by
        rw [List.map_map]
        refine List.map_congr_left fun x hx => ?_
        obtain ⟨n, h2, h3⟩ := hrg x hx
        simp [WideElems.rg, h3, h2, strOf]
      rw [h1, hkeys, List.map_map]
      refine List.map_congr_left fun e _ => ?_
      simp
    rw [this]
  · show ((ents.toArray.toList.map (WideElems.rg Tryz.prog k _)).foldr DataW.insert []).length = _
    rw [(Go.WideShapes.sorted_perm _).length_eq]; simp [hlen]

theorem sortsS (m : Nat) : AnyZ.SortsIn Tryz.prog sortedS_ren Fence.wide m :=
  ⟨fun blk off cap ss W hH hblk hsz => callsIn_wide.2 (AnyM.slices_Sort_string sortS_lay blk off cap ss W hH hblk hsz), fun p cap W => callsIn_wide.2 (AnyM.slices_Sort_string_none sortS_lay p cap W)⟩

theorem flat_strs : ∀ l : List (List UInt8), flatV encS1 (l.map ofB) = l.map encStr
  | [] => rfl
  | x :: l => by
    have := flat_strs l
    unfold flatV at this ⊢
    simp only [List.map_cons, List.flatMap_cons, this]
    rfl
theorem srtS_ok {fI T : Nat} (hT : T = 9) (hg : ∃ fn, Tryz.prog.funcs[fI]? = some fn ∧ (fn.name == "runtime.NumGoroutine") = false ∧ ∃ c, fn.body = some c)
    (hK : ∀ (w : World) (b rm nn : Nat) (D0 : DataW Unit), b < w.heap.size → w.cell? ⟨b, 0, none⟩ = some (.map (some rm)) → w.ownsMap Tryz.prog 9 (fun _ => some (.lit (.bool true), [])) rm nn D0 →
      SeqGives Fence.wide 2 Tryz.prog fI #[.pointer (some ⟨b, 0, none⟩)] encStr (fun ss => ss.Perm (strKeys D0)) (Maps.size D0) w) : CtrOk Tryz.prog 106 (srtSC fI T) := by
  subst hT
  intro args hs N h
  unfold srtSC at h
  split at h
  case h_2 => exact h.elim
  rename_i f lb b
  obtain ⟨rfl, h⟩ := h
  split at h
  case h_2 => exact h.elim
  rename_i b' lm rm T' hlb
  split at h
  case h_2 => exact h.elim
  rename_i rm' β kd enc es hlm
  obtain ⟨⟨rfl, rfl, rfl, hw⟩, h⟩ := h
  intro W F w hr
  obtain ⟨fn, g1, g2, c, g3⟩ := hg
  have hcell : w.cell? ⟨b', 0, none⟩ = some (.map (some rm')) := by rw [hr.cells hlb]; rfl
  have hb : b' < w.heap.size := World.block_lt_of_cell? _ _ hcell
  obtain ⟨c0, L0, hc0, hH0, _⟩ := hr.get hlm
  obtain ⟨hks, ents, clock, rfl, hst, he⟩ := hc0
  obtain ⟨D0, o1, o2, o3⟩ := ownsS_of (k := 9) Tryz.underlying9 (hH0.heap .here) hst he hks hw
  have hseq := hK w b' rm' es.length D0 hb hcell o1
  have hlen := hw.2.1
  have cS := AnyZ.sorted_in sortedS Fence.wide 5 trivial trivial trivial trivial rfl (by omega) (sortsS _) (enters_of Tryz.func121 (by kernel_rfl) rfl) f #[.pointer (some ⟨b', 0, none⟩)] trivial (enters_of g1 g2 g3) _ _ (by rw [o3]; unfold maxLen; omega) (by rw [o3]; omega) _ hseq
  refine Calls.mono ((callsIn_wide (n := 5)).1 cS) ?_
  rintro e w' ⟨v, ss, rfl, hS, hrow, hnil, hbel⟩
  have hsort : sortS es = (ss.mergeSort leB).map ofB := by unfold sortS; rw [mergeSort_of_perm (hS.trans o2)]
  have hls : ss.length = (sortS es).length := by rw [hsort, List.length_map, (List.mergeSort_perm ss leB).length_eq]
  have hflat : flatV encS1 (sortS es) = (ss.mergeSort leB).map encStr := by rw [hsort, flat_strs]
  rcases hrow.2 with ⟨rfl, h0⟩ | ⟨g, cap, cur, rfl, hge, hgb, hle, hcap, hsz, htk⟩
  · have hnl : sortS es = [] := List.eq_nil_of_length_eq_zero (by omega)
    refine ⟨_, _, h none 0, by rw [hnl]; rfl, ?_⟩
    have hr' : Rep W F hs w' := hr.move fun L hL => hL.below hbel
    rw [hnl]
    exact Rep.nilvec _ (sz := 1) (enc := encS1) ByteArray.empty (fun _ => rfl) hr'
  · refine ⟨_, _, h (some ⟨g, 0, none⟩) cap, by rw [hls]; rfl, ?_⟩
    refine hr.new (c := [(g, .cells cur _ (0, 0))]) ⟨⟨by rw [hflat]; simp [hls], by omega, .inr ⟨g, 0, cur, rfl, rfl, by omega, ?_⟩⟩, fun _ => rfl⟩ fun L hL => hL.grow hbel hge hgb
    have e1 : (sortS es).length * 1 = ss.length * 1 := by rw [hls]
    rw [List.drop_zero, hflat, e1, htk]
end Go.Proofs.YtkcmgcoppecfpaaGreat

/- cgroup.Groups: Of, Members, names, All. -/
namespace Go.Proofs.YtkcmgcoppecfpaaGreat
open Go Go.RowKit

def memG (s : Grp) (n : ByteArray) : List Int := match mget s.gs (.s n) with
  | some x => sortI x.2
  | none => []
def memGOk (s : Grp) (n : ByteArray) : Prop := ∀ x, mget s.gs (.s n) = some x → wfI x.2
def gofM (s : Grp) (args : List SV) (N : Grp → SV → Prop) : Prop := match args with
  | [.int .i64 pid] => N s (.tuple [.str ((mget s.of (.i .i64 pid)).getD ⟨#[]⟩), .bool (mget s.of (.i .i64 pid)).isSome])
  | _ => False
def membersNC : Ctr := fun args hs N => match args with
  | [.ptr l b 0, .str name] => match nth hs l with
    | some ⟨.blk b', .adt (σ := σ') p s⟩ => b' = b ∧ ∃ h : σ' = Grp, AdtIs p grpE ∧ memGOk (cast h s) name ∧
        ∀ ao cap, N (snoc hs ⟨.sl ao cap, .vecL 3 1 encI1 (memG (cast h s) name) 0⟩) (.vec (lenN hs) ao (memG (cast h s) name).length cap)
    | _ => False
  | _ => False
def srtQC (fI T : Nat) : Ctr := fun args hs N => match args with
  | [.func (.func f) [] [.ptr lb b 0]] => f = fI ∧ match nth hs lb with
    | some ⟨.blk b', .cells [.map lm rm] _⟩ => match nth hs lm with
      | some ⟨.blk rm', .mapL (β := β) kd enc es⟩ => (b' = b ∧ rm' = rm ∧ kd = some .i64 ∧ wfI es) ∧ ∀ ao cap, N (snoc hs ⟨.sl ao cap, .vecL T 1 encI1 (sortI es) 0⟩) (.vec (lenN hs) ao (sortI es).length cap)
      | _ => False
    | some ⟨.blk b', .cells [.raw (.map none)] _⟩ => b' = b ∧ ∀ ao cap, N (snoc hs ⟨.sl ao cap, .vecL T 1 encI1 [] 0⟩) (.vec (lenN hs) ao 0 cap)
    | _ => False
  | _ => False
def gaT0 : Tbl := [(88, inl Tryz.prog [] true Tryz.f88 100), (80, srtQC 101 3)]
def gaT : Tbl := (61, inl Tryz.prog gaT0 true Tryz.f61 200) :: gaT0
def namesC : Ctr := fun args hs N => match args with
  | [.ptr l b 0] => match nth hs l with
    | some ⟨.blk b', .adt (σ := σ') p s⟩ => b' = b ∧ ∃ h : σ' = Grp, AdtIs p grpE ∧ wfS (cast h s).gs ∧
        ∀ ao cap bx, N (snoc (snoc hs ⟨.sl ao cap, .vecL 9 1 encS (sortS (cast h s).gs) ByteArray.empty⟩) ⟨.blk bx, .cells [.vec (lenN hs) ao (sortS (cast h s).gs).length cap] 102⟩) (.func (.func 119) [] [.ptr (lenN hs + 1) bx 0])
    | _ => False
  | _ => False
def gnT : Tbl := [(107, inl Tryz.prog [] true Tryz.f107 100), (106, srtSC 122 9), (105, inl Tryz.prog [] true Tryz.f105 100)]
def allGY (fv : Value) (s : Grp) (b : Nat) (ns : List ByteArray) (R : Nat → List Ent) (Stop : List Ent → Prop) : YCtr := fun v args hs N => v = fv ∧ match hs with
  | e0 :: e1 :: e2 :: e3 :: e4 :: e5 :: e6 :: rest => ∃ i x ao cap, ns[i]? = some x ∧ args = [.str x, .vec 6 ao (memG s x).length cap] ∧ e0 = pkA b grpE s ∧ e3 = pk 0 (R i) ∧ e6 = ⟨.sl ao cap, .vecL 3 1 encI1 (memG s x) 0⟩ ∧
      N (e0 :: e1 :: e2 :: pk 0 (R (i + 1)) :: e4 :: e5 :: e6 :: rest) (.bool true) ∧ ∀ R', Stop R' → N (e0 :: e1 :: e2 :: pk 0 R' :: e4 :: e5 :: e6 :: rest) (.bool false)
  | _ => False
end Go.Proofs.YtkcmgcoppecfpaaGreat

/- Processes (proc.Table): what a table holds; what its methods do. -/
namespace Go.Proofs.YtkcmgcoppecfpaaGreat
open Go Go.RowKit

structure PR where
  (pid parent : Int) (group : ByteArray) (zombie : Bool) (status : Int) (cmd : ByteArray) (term kill : Bool)
def PR.zero : PR := ⟨0, 0, ⟨#[]⟩, false, 0, ⟨#[]⟩, false, false⟩
def encR (r : PR) : List SV := [.int .i64 r.pid, .int .i64 r.parent, .str r.group, .bool r.zombie, .int .i64 r.status, .str r.cmd, .bool r.term, .bool r.kill]
def encP6 (r : PR) : List SV := [.int .i64 r.pid, .int .i64 r.parent, .str r.group, .bool r.zombie, .int .i64 r.status, .str r.cmd]
structure PT where
  (bm : Nat) (ps : List (Nat × PR)) (room last : Int)
def encB1 (b : Nat) : SV := .ptr 2 b 0
def pkey (x : Nat × PR) : Key × Nat := (.i .i64 x.2.pid, x.1)
def procE (x : Nat × PR) : Ent := ⟨.blk x.1, .cells (encR x.2) 121⟩
def ptE (s : PT) (b : Nat) : List Ent := [⟨.blk b, .cells [.map 1 s.bm, .int .i64 s.room, .int .i64 s.last] 119⟩, ⟨.blk s.bm, .mapL (some .i64) encB1 (s.ps.map pkey)⟩, pk 0 (s.ps.map procE)]
def getP (ps : List (Nat × PR)) (pid : Int) : Option (Nat × PR) := ps.find? fun x => x.2.pid == pid
def setOne (pid : Int) (g : PR → PR) (x : Nat × PR) : Nat × PR := match x.2.pid == pid with
  | true => (x.1, g x.2)
  | false => x
def setP (ps : List (Nat × PR)) (pid : Int) (g : PR → PR) : List (Nat × PR) := ps.map (setOne pid g)
structure pOk (s : PT) : Prop where
  asc : s.ps.Pairwise fun x y => x.2.pid < y.2.pid
  le : ∀ x ∈ s.ps, 1 ≤ x.2.pid ∧ x.2.pid ≤ s.last
  last : s.last ≤ 1000000
  len : s.ps.length ≤ 1000000
  room : 0 ≤ s.room ∧ s.room ≤ 64
def pNew (room : Int) (bm bp : Nat) : PT := ⟨bm, [(bp, { PR.zero with pid := 1 })], mnI (mxI room 0) 64, 1⟩
def pHas (s : PT) (pid : Int) : Bool := (getP s.ps pid).isSome
def pGet (s : PT) (pid : Int) : PR := ((getP s.ps pid).map (·.2)).getD PR.zero
def pLive (s : PT) (pid : Int) : Bool := pHas s pid && !(pGet s pid).zombie
def pBegins (s : PT) (r : PR) (nb : Nat) : PT × Int × Int := match decide ((s.ps.length : Int) - 1 ≥ s.room) with
  | true => (s, 0, 81)
  | false => ({ s with ps := s.ps ++ [(nb, { r with pid := s.last + 1 })], last := s.last + 1 }, s.last + 1, 0)
def pSpawn (s : PT) (parent : Int) (group cmd : ByteArray) (nb : Nat) : PT × Int × Int := match pLive s parent with
  | true => pBegins s { PR.zero with parent := parent, group := group, cmd := cmd } nb
  | false => (s, 0, 80)
def pFork (s : PT) (pid : Int) (nb : Nat) : PT × Int × Int := match pLive s pid && !(pid == 1) && !(pGet s pid).kill with
  | true => pBegins s { PR.zero with parent := pid, group := (pGet s pid).group, cmd := (pGet s pid).cmd } nb
  | false => (s, 0, 80)
def stOf (status : Int) : Int := match decide (status < -64) || decide (status > 255) with
  | true => 255
  | false => status
def orphan (pid : Int) (r : PR) : PR := match r.parent == pid with
  | true => { r with parent := 1 }
  | false => r
def pExit (s : PT) (pid status : Int) : PT × Int := match pLive s pid && !(pid == 1) with
  | true => ({ s with ps := (setP s.ps pid fun r => { r with zombie := true, status := stOf status }).map fun x => (x.1, orphan pid x.2) }, 0)
  | false => (s, 80)
def pKill (s : PT) (pid sig : Int) : PT × Int := match pLive s pid && !(pid == 1) with
  | true => match sig == 15 with
    | true => ({ s with ps := setP s.ps pid fun r => { r with term := true } }, 0)
    | false => match sig == 9 with
      | true => ({ s with ps := setP s.ps pid fun r => { r with kill := true } }, 0)
      | false => (s, 80)
  | false => (s, 80)
def deadOf (s : PT) (parent : Int) : Option (Nat × PR) := s.ps.find? fun x => x.2.zombie && x.2.parent == parent
def pReap (s : PT) (parent : Int) : PT × PR × Int := match deadOf s parent with
  | some x => ({ s with ps := s.ps.filter fun y => !(y.2.pid == x.2.pid) }, x.2, 0)
  | none => (s, PR.zero, 80)

def spawnM (s : PT) (args : List SV) (N : PT → SV → Prop) : Prop := match args with
  | [.int .i64 parent, .str group, .str cmd] => pOk s ∧ ∀ nb, N (pSpawn s parent group cmd nb).1 (.tuple [.int .i64 (pSpawn s parent group cmd nb).2.1, .int .i64 (pSpawn s parent group cmd nb).2.2])
  | _ => False
def forkM (s : PT) (args : List SV) (N : PT → SV → Prop) : Prop := match args with
  | [.int .i64 pid] => pOk s ∧ ∀ nb, N (pFork s pid nb).1 (.tuple [.int .i64 (pFork s pid nb).2.1, .int .i64 (pFork s pid nb).2.2])
  | _ => False
def exitM (s : PT) (args : List SV) (N : PT → SV → Prop) : Prop := match args with
  | [.int .i64 pid, .int .i64 status] => pOk s ∧ N (pExit s pid status).1 (.int .i64 (pExit s pid status).2)
  | _ => False
def killM (s : PT) (args : List SV) (N : PT → SV → Prop) : Prop := match args with
  | [.int .i64 pid, .int .i64 sig] => pOk s ∧ N (pKill s pid sig).1 (.int .i64 (pKill s pid sig).2)
  | _ => False
def signalsM (s : PT) (args : List SV) (N : PT → SV → Prop) : Prop := match args with
  | [.int .i64 pid] => pOk s ∧ N s (.tuple [.bool (pGet s pid).term, .bool (pGet s pid).kill])
  | _ => False
def getM (s : PT) (args : List SV) (N : PT → SV → Prop) : Prop := match args with
  | [.int .i64 pid] => pOk s ∧ N s (.tuple [.agg (encP6 (pGet s pid)), .bool (pHas s pid)])
  | _ => False
def reapM (s : PT) (args : List SV) (N : PT → SV → Prop) : Prop := match args with
  | [.int .i64 parent] => pOk s ∧ N (pReap s parent).1 (.tuple [.agg (encP6 (pReap s parent).2.1), .int .i64 (pReap s parent).2.2])
  | _ => False
def newPC : Ctr := fun args hs N => match args with
  | [.int .i64 room] => ∀ b bm bp, N (snoc hs (pkA b ptE (pNew room bm bp))) (.ptr (lenN hs) b 0)
  | _ => False
def ptL : Tbl := [(83, inl Tryz.prog [] false Tryz.f83 200), (97, inl Tryz.prog [] false Tryz.f97 200)]
def ptB : Tbl := (84, inl Tryz.prog ptL true Tryz.f84 400) :: ptL
end Go.Proofs.YtkcmgcoppecfpaaGreat

/- kern.Kernel: what its methods do. -/
namespace Go.Proofs.YtkcmgcoppecfpaaGreat
open Go Go.RowKit

def insQ (x : Int) : List Int → List Int
  | [] => [x]
  | y :: l => match decide (x ≤ y) with
    | true => x :: y :: l
    | false => y :: insQ x l
def sortQ : List Int → List Int
  | [] => []
  | x :: l => insQ x (sortQ l)
def memQ (s : Grp) (n : ByteArray) : List Int := match mget s.gs (.s n) with
  | some x => sortQ (x.2.map fun e => keyInt e.1)
  | none => []
def gsOk (s : Grp) : Prop := wfS s.gs ∧ s.gs.length ≤ 1000000 ∧ (∀ e ∈ s.gs, keyKind e.1 = none) ∧ ∀ n x, mget s.gs (.s n) = some x → wfI x.2 ∧ x.2.length ≤ 1000000
def groupedC : Ctr := fun args hs N => match args with
  | [.ptr l b 0, .str g] => match nth hs l with
    | some ⟨.blk b', .cells [_, .ptr lg bg 0, _, _, _, _] T⟩ => (b' = b ∧ T = 96 ∧ Nat.beq l lg = false) ∧ match nth hs lg with
      | some ⟨.blk bg', .adt (σ := σ') p s⟩ => bg' = bg ∧ ∃ h : σ' = Grp, AdtIs p grpE ∧ gsOk (cast h s) ∧ N hs (.bool (mget (cast h s).gs (.s g)).isSome)
      | _ => False
    | _ => False
  | _ => False
def kgF (sig : Int) (a : PT × Int) (p : Int) : PT × Int := ((pKill a.1 p sig).1, match (pKill a.1 p sig).2 == 0 with
  | true => a.2 + 1
  | false => a.2)
def kgAll (pt : PT) (sig : Int) (ms : List Int) : PT × Int := ms.foldl (kgF sig) (pt, 0)
def killGC : Ctr := fun args hs N => match args with
  | [.ptr l b 0, .str g, .int .i64 sig] => match nth hs l with
    | some ⟨.blk b', .cells [.ptr lp bp 0, .ptr lg bg 0, _, _, _, _] T⟩ => (b' = b ∧ T = 96 ∧ distinct [l, lp, lg] = true) ∧ match nth hs lp with
      | some ⟨.blk bp', .adt (σ := σp) pp pt⟩ => match nth hs lg with
        | some ⟨.blk bg', .adt (σ := σg) pg s⟩ => (bp' = bp ∧ bg' = bg) ∧ ∃ h1 : σp = PT, ∃ h2 : σg = Grp, AdtIs pp ptE ∧ AdtIs pg grpE ∧ (pOk (cast h1 pt) ∧ gsOk (cast h2 s)) ∧
            N (setN hs lp (pkA bp ptE (kgAll (cast h1 pt) sig (memQ (cast h2 s) g)).1)) (.int .i64 (kgAll (cast h1 pt) sig (memQ (cast h2 s) g)).2)
        | _ => False
      | _ => False
    | _ => False
  | _ => False
def foreverI : Int := 9223372036854775807
def addS (a c : Int) : Int := match a == foreverI || c == foreverI with
  | true => foreverI
  | false => match decide (a > 0) && decide (c > 0) && decide (IntKind.wrap .i64 (a + c) < 0) with
    | true => foreverI
    | false => match decide (a < 0) && decide (c < 0) && decide (IntKind.wrap .i64 (a + c) ≥ 0) with
      | true => -9223372036854775808
      | false => IntKind.wrap .i64 (a + c)
def addC : Ctr := fun args hs N => match args with
  | [.int .i64 a, .int .i64 c] => N hs (.int .i64 (addS a c))
  | _ => False
def tickC : Ctr := fun args hs N => match args with
  | [.ptr l b 0, .int .i64 n] => match nth hs l with
    | some ⟨.blk b', .cells [c0, c1, c2, c3, .int .i64 m, .int .i64 w] T⟩ => (b' = b ∧ T = 96) ∧ match decide (n < 0) with
      | true => N hs (.int .i64 10)
      | false => N (setN hs l ⟨.blk b, .cells [c0, c1, c2, c3, .int .i64 (addS m n), .int .i64 (addS w n)] 96⟩) (.int .i64 0)
    | _ => False
  | _ => False
def membersQC : Ctr := fun args hs N => match args with
  | [.ptr l b 0, .str name] => match nth hs l with
    | some ⟨.blk b', .adt (σ := σ') p s⟩ => b' = b ∧ ∃ h : σ' = Grp, AdtIs p grpE ∧ memGOk (cast h s) name ∧
        ∀ ao cap, N (snoc hs ⟨.sl ao cap, .vecL 3 1 encI1 (memQ (cast h s) name) 0⟩) (.vec (lenN hs) ao (memQ (cast h s) name).length cap)
    | _ => False
  | _ => False
def newAnyC : Ctr := fun args hs N => match args with
  | [] => ∀ v, N hs (.raw (.pointer v))
  | _ => False
def knJ : Tbl := [(85, adtC grpE putM)]
def knS : Tbl := [(52, groupedC), (53, adtC ptE spawnM), (54, inl Tryz.prog knJ true Tryz.f54 300)]
def knF : Tbl := [(17, adtC grpE gofM), (55, adtC ptE forkM), (54, inl Tryz.prog knJ true Tryz.f54 300)]
def knE : Tbl := [(56, adtC ptE exitM), (57, adtC grpE goneM)]
def knD : Tbl := [(59, adtC ptE signalsM), (11, inl Tryz.prog knE true Tryz.f11 300)]
def knN : Tbl := [(48, newPC), (49, newGC), (50, newAnyC), (51, newAnyC)]
def knT : Tbl := [(6, inl Tryz.prog knN true Tryz.f6 300), (7, inl Tryz.prog [] true Tryz.f7 200), (15, inl Tryz.prog [] true Tryz.f15 200), (38, inl Tryz.prog [] true Tryz.f38 200), (39, inl Tryz.prog [] true Tryz.f39 200), (33, tickC), (9, inl Tryz.prog knS true Tryz.f9 400), (10, inl Tryz.prog knF true Tryz.f10 400), (13, inl Tryz.prog knD true Tryz.f13 400), (12, killGC), (8, adtC grpE makeM), (18, membersQC), (46, adtC grpE emptiedM), (59, adtC ptE signalsM)]
end Go.Proofs.YtkcmgcoppecfpaaGreat

/- Slots of which nothing is said, in short. -/
namespace Go.Proofs.YtkcmgcoppecfpaaGreat
open Go Go.RowKit
def rawR (u : Nat → Value) (k : Nat) (t : List SV) : Nat → List SV
  | 0 => t
  | n + 1 => SV.raw (u k) :: rawR u (k + 1) t n
def rawE (t : List SV) : Nat → List SV
  | 0 => t
  | n + 1 => SV.raw (Value.tuple #[]) :: rawE t n
end Go.Proofs.YtkcmgcoppecfpaaGreat

namespace Go.Proofs.YtkcmgcoppecfpaaGreat
open Go Go.RowKit

theorem kg_start (K : List Frm → Sy → Prop) (X : Code → Sy → Prop) (E : Sy → Prop) (b : Nat) (c0 c2 c3 c4 c5 : SV) (bg : Nat) (s : Grp) (g : ByteArray) : (runR Tryz.prog [(82, inl Tryz.prog [] true Tryz.f82 200)] (noY) true [] K X E 300 [.code (bodyOf Tryz.f52)] ⟨padTo 16 [.ptr 0 b 0, .str g], [⟨.blk b, .cells [c0, .ptr 1 bg 0, c2, c3, c4, c5] 96⟩, pkA bg grpE s]⟩) = ( true = true ∧ ∀ (b_1 b_2 : Nat), b = b ∧ true = true ∧ true = true ∧ ∀ (b_3 : Nat), K (frm [] (bodyOf Tryz.f52) [1, 0, 1, 0] []) (Sy.mk (SV.ptr 0 b 0 :: (SV.str g :: (SV.raw (Value.tuple #[]) :: (SV.ptr 2 b_1 0 :: (SV.ptr 3 b_2 0 :: (SV.raw (Value.tuple #[]) :: (SV.ptr 0 b 0 :: (SV.ptr 0 b 0 :: (SV.ptr 0 b 1 :: (SV.ptr 1 bg 0 :: (SV.func (Fn.func 95) [] [SV.ptr 4 b_3 0] :: (rawE [] 5)))))))))))) [Ent.mk (Loc.blk b) (SObj.cells [c0, SV.ptr 1 bg 0, c2, c3, c4, c5] 96), pkA bg grpE s, Ent.mk (Loc.blk b_1) (SObj.cells [SV.str g] 9), Ent.mk (Loc.blk b_2) (SObj.cells [SV.bool false] 4), Ent.mk (Loc.blk b_3) (SObj.cells [SV.ptr 1 bg 0] 28)])) := by kernel_rfl
theorem kg_asg (K : List Frm → Sy → Prop) (X : Code → Sy → Prop) (E : Sy → Prop) (b : Nat) (c0 c2 c3 c4 c5 : SV) (bg : Nat) (s : Grp) (g : ByteArray) (b3 b4 D l : Nat) (rc : Loop) (x : ByteArray) (ao : Option Addr) (n cap : Nat) (ms : List Int) (u : Nat → Value) : (runR Tryz.prog [] (noY) true [] K X E 60 ([.code (rfA (codeAt (bodyOf Tryz.f52) [1, 0, 1, 0]))]) ⟨mkT u 16 0 [(3, .ptr 2 b3 0), (4, .ptr 3 b4 0), (11, .str x), (12, .vec 6 ao n cap)], [pkA bg grpE s, ⟨.blk b, .cells [c0, .ptr 0 bg 0, c2, c3, c4, c5] 96⟩, ⟨.blk b3, .cells [.str g] 9⟩, ⟨.blk b4, .cells [.bool false] 4⟩, dent D true, lp l rc .ready none, ⟨.sl ao cap, .vecL 3 1 encI1 ms 0⟩]⟩) = ( E (Sy.mk (rawR u 0 (SV.ptr 2 b3 0 :: (SV.ptr 3 b4 0 :: (SV.str x :: (rawR u 6 (SV.str x :: (SV.vec 6 ao n cap :: (rawR u 13 [] 3))) 5)))) 3) [pkA bg grpE s, Ent.mk (Loc.blk b) (SObj.cells [c0, SV.ptr 0 bg 0, c2, c3, c4, c5] 96), Ent.mk (Loc.blk b3) (SObj.cells [SV.str g] 9), Ent.mk (Loc.blk b4) (SObj.cells [SV.bool false] 4), dent D true, lp l rc LoopState.ready (@none Code), Ent.mk (Loc.sl ao cap) (SObj.vecL 3 1 encI1 ms (0 : Int))])) := by kernel_rfl
theorem kg_body (K : List Frm → Sy → Prop) (X : Code → Sy → Prop) (E : Sy → Prop) (b : Nat) (c0 c2 c3 c4 c5 : SV) (bg : Nat) (s : Grp) (g : ByteArray) (b3 b4 D l : Nat) (rc : Loop) (x : ByteArray) (ao : Option Addr) (cap : Nat) (ms : List Int) (u : Nat → Value) : (runR Tryz.prog [] (noY) true [] K X E 600 ([.code (rfB (codeAt (bodyOf Tryz.f52) [1, 0, 1, 0]))]) ⟨mkT u 16 0 [(3, .ptr 2 b3 0), (4, .ptr 3 b4 0), (5, .str x)], [pkA bg grpE s, ⟨.blk b, .cells [c0, .ptr 0 bg 0, c2, c3, c4, c5] 96⟩, ⟨.blk b3, .cells [.str g] 9⟩, ⟨.blk b4, .cells [.bool false] 4⟩, dent D true, lp l rc .busy none, ⟨.sl ao cap, .vecL 3 1 encI1 ms 0⟩]⟩) = ( b3 = b3 ∧ match sEq x g with
 | true => (b4 = b4 ∧ true = true ∧ 1 = 1 ∧ 1 ≤ 1) ∧ X Code.ret (Sy.mk (rawR u 0 (SV.ptr 2 b3 0 :: (SV.ptr 3 b4 0 :: (SV.str x :: (rawR u 6 (SV.str x :: (SV.str g :: (SV.bool true :: []))) 7)))) 3) [pkA bg grpE s, Ent.mk (Loc.blk b) (SObj.cells [c0, SV.ptr 0 bg 0, c2, c3, c4, c5] 96), Ent.mk (Loc.blk b3) (SObj.cells [SV.str g] 9), Ent.mk (Loc.blk b4) (SObj.cells [SV.bool true] 4), dent D true, lp l rc LoopState.busy (@none Code), Ent.mk (Loc.sl ao cap) (SObj.vecL 3 1 encI1 ms (0 : Int))])
 | false => E (Sy.mk (rawR u 0 (SV.ptr 2 b3 0 :: (SV.ptr 3 b4 0 :: (SV.str x :: (rawR u 6 (SV.str x :: (SV.str g :: (SV.bool false :: []))) 7)))) 3) [pkA bg grpE s, Ent.mk (Loc.blk b) (SObj.cells [c0, SV.ptr 0 bg 0, c2, c3, c4, c5] 96), Ent.mk (Loc.blk b3) (SObj.cells [SV.str g] 9), Ent.mk (Loc.blk b4) (SObj.cells [SV.bool false] 4), dent D true, lp l rc LoopState.busy (@none Code), Ent.mk (Loc.sl ao cap) (SObj.vecL 3 1 encI1 ms (0 : Int))])) := by kernel_rfl
theorem kg_end (K : List Frm → Sy → Prop) (E : Sy → Prop) (N : List Ent → SV → Prop) (b : Nat) (c0 c2 c3 c4 c5 : SV) (bg : Nat) (s : Grp) (g : ByteArray) (b3 b4 D l : Nat) (rc : Loop) (u : Nat → Value) : (runR Tryz.prog [] (noY) true [] K (endMX Tryz.prog Tryz.f52.results.toList D 4 N) E 900 ((frm [] (bodyOf Tryz.f52) [1, 0, 1, 0] []).tail) ⟨mkT u 16 0 [(3, .ptr 2 b3 0), (4, .ptr 3 b4 0)], [pkA bg grpE s, ⟨.blk b, .cells [c0, .ptr 0 bg 0, c2, c3, c4, c5] 96⟩, ⟨.blk b3, .cells [.str g] 9⟩, ⟨.blk b4, .cells [.bool false] 4⟩, dent D true, lp l rc .exhausted none]⟩) = ( (b4 = b4 ∧ true = true ∧ 1 = 1 ∧ 1 ≤ 1) ∧ some (dent D true) = some (dent D true) ∧ b4 = b4 ∧ N [pkA bg grpE s, Ent.mk (Loc.blk b) (SObj.cells [c0, SV.ptr 0 bg 0, c2, c3, c4, c5] 96), Ent.mk (Loc.blk b3) (SObj.cells [SV.str g] 9), Ent.mk (Loc.blk b4) (SObj.cells [SV.bool false] 4), dent D false, lp l rc LoopState.exhausted (@none Code)] (SV.bool false)) := by kernel_rfl
theorem kg_ret (K : List Frm → Sy → Prop) (E : Sy → Prop) (N : List Ent → SV → Prop) (b : Nat) (c0 c2 c3 c4 c5 : SV) (bg : Nat) (s : Grp) (g : ByteArray) (b3 b4 D l : Nat) (rc : Loop) (u : Nat → Value) : (runR Tryz.prog [] (noY) true [] K (endMX Tryz.prog Tryz.f52.results.toList D 4 N) E 900 (Frm.code .ret :: (frm [] (bodyOf Tryz.f52) [1, 0, 1, 0] []).tail) ⟨mkT u 16 0 [(3, .ptr 2 b3 0), (4, .ptr 3 b4 0)], [pkA bg grpE s, ⟨.blk b, .cells [c0, .ptr 0 bg 0, c2, c3, c4, c5] 96⟩, ⟨.blk b3, .cells [.str g] 9⟩, ⟨.blk b4, .cells [.bool true] 4⟩, dent D true, lp l rc .exhausted (some .ret)]⟩) = ( some (dent D true) = some (dent D true) ∧ b4 = b4 ∧ N [pkA bg grpE s, Ent.mk (Loc.blk b) (SObj.cells [c0, SV.ptr 0 bg 0, c2, c3, c4, c5] 96), Ent.mk (Loc.blk b3) (SObj.cells [SV.str g] 9), Ent.mk (Loc.blk b4) (SObj.cells [SV.bool true] 4), dent D false, lp l rc LoopState.exhausted (some Code.ret)] (SV.bool true)) := by kernel_rfl
theorem kk_start (K : List Frm → Sy → Prop) (X : Code → Sy → Prop) (E : Sy → Prop) (b : Nat) (c0 c2 c3 c4 c5 : SV) (bp bg : Nat) (pt : PT) (s : Grp) (g : ByteArray) (sig : Int) : (runR Tryz.prog [(18, membersQC), (58, inl Tryz.prog [] true Tryz.f58 200)] (noY) true [] K X E 300 [.code (bodyOf Tryz.f12)] ⟨padTo 25 [.ptr 0 b 0, .str g, .int .i64 sig], [⟨.blk b, .cells [.ptr 1 bp 0, .ptr 2 bg 0, c2, c3, c4, c5] 96⟩, pkA bp ptE pt, pkA bg grpE s]⟩) = ( true = true ∧ ∀ (b_1 : Nat), true = true ∧ ∀ (b_2 b_3 : Nat), (b_3 = b_3 ∧ true = true ∧ 1 = 1 ∧ 1 ≤ 1) ∧ b_1 = b_1 ∧ b = b ∧ true = true ∧ bg = bg ∧ ∃ (h : Grp = Grp), AdtIs (fun (s : Grp) (b : Nat) ↦ packs (grpE s b)) grpE ∧ memGOk (cast h s) g ∧ ∀ (ao : Option Addr) (cap : Nat), true = true ∧ true = true ∧ ∀ (b_4 : Nat), K (frm [] (bodyOf Tryz.f12) [1, 1, 0, 1, 0] []) (Sy.mk (SV.ptr 0 b 0 :: (SV.str g :: (SV.int .i64 sig :: (SV.ptr 3 b_1 0 :: (SV.raw (Value.tuple #[]) :: (SV.ptr 4 b_2 0 :: (SV.int .i64 0 :: (SV.ptr 5 b_3 0 :: (SV.raw (Value.tuple #[]) :: (SV.ptr 0 b 0 :: (SV.ptr 0 b 0 :: (SV.ptr 0 b 1 :: (SV.ptr 2 bg 0 :: (SV.str g :: (SV.vec 6 ao (List.length (memQ s g)) cap :: (SV.func (Fn.func 87) [] [SV.ptr 7 b_4 0] :: (rawE [] 9))))))))))))))))) [Ent.mk (Loc.blk b) (SObj.cells [SV.ptr 1 bp 0, SV.ptr 2 bg 0, c2, c3, c4, c5] 96), pkA bp ptE pt, pkA bg grpE s, Ent.mk (Loc.blk b_1) (SObj.cells [SV.ptr 0 b 0] 24), Ent.mk (Loc.blk b_2) (SObj.cells [SV.int .i64 sig] 3), Ent.mk (Loc.blk b_3) (SObj.cells [SV.int .i64 0] 3), Ent.mk (Loc.sl ao cap) (SObj.vecL 3 1 encI1 (memQ s g) (0 : Int)), Ent.mk (Loc.blk b_4) (SObj.cells [SV.vec 6 ao (List.length (memQ s g)) cap] 47)])) := by kernel_rfl
theorem kk_asg (K : List Frm → Sy → Prop) (X : Code → Sy → Prop) (E : Sy → Prop) (b : Nat) (c0 c2 c3 c4 c5 : SV) (bp bg : Nat) (pt : PT) (s : Grp) (g : ByteArray) (sig : Int) (b3 b5 b7 D l : Nat) (n : Int) (rc : Loop) (x : Int) (u : Nat → Value) : (runR Tryz.prog [] (noY) true [] K X E 60 ([.code (rfA (codeAt (bodyOf Tryz.f12) [1, 1, 0, 1, 0]))]) ⟨mkT u 25 0 [(3, .ptr 3 b3 0), (5, .ptr 4 b5 0), (7, .ptr 5 b7 0), (16, .int .i64 x)], [⟨.blk b, .cells [.ptr 1 bp 0, .ptr 2 bg 0, c2, c3, c4, c5] 96⟩, pkA bp ptE (pt), pkA bg grpE s, ⟨.blk b3, .cells [.ptr 0 b 0] 24⟩, ⟨.blk b5, .cells [.int .i64 sig] 3⟩, ⟨.blk b7, .cells [.int .i64 (n)] 3⟩, dent D true, lp l rc .ready none]⟩) = ( E (Sy.mk (rawR u 0 (SV.ptr 3 b3 0 :: (SV.raw (u 4) :: (SV.ptr 4 b5 0 :: (SV.raw (u 6) :: (SV.ptr 5 b7 0 :: (SV.int .i64 x :: (rawR u 9 (SV.int .i64 x :: (rawR u 17 [] 8)) 7))))))) 3) [Ent.mk (Loc.blk b) (SObj.cells [SV.ptr 1 bp 0, SV.ptr 2 bg 0, c2, c3, c4, c5] 96), pkA bp ptE pt, pkA bg grpE s, Ent.mk (Loc.blk b3) (SObj.cells [SV.ptr 0 b 0] 24), Ent.mk (Loc.blk b5) (SObj.cells [SV.int .i64 sig] 3), Ent.mk (Loc.blk b7) (SObj.cells [SV.int .i64 n] 3), dent D true, lp l rc LoopState.ready (@none Code)])) := by kernel_rfl
theorem kk_body (K : List Frm → Sy → Prop) (X : Code → Sy → Prop) (E : Sy → Prop) (b : Nat) (c0 c2 c3 c4 c5 : SV) (bp bg : Nat) (pt : PT) (s : Grp) (g : ByteArray) (sig : Int) (b3 b5 b7 D l : Nat) (n : Int) (rc : Loop) (x : Int) (u : Nat → Value) : (runR Tryz.prog [(25, inl Tryz.prog [(73, adtC ptE killM)] true Tryz.f25 200)] (noY) true [] K X E 600 ([.code (rfB (codeAt (bodyOf Tryz.f12) [1, 1, 0, 1, 0]))]) ⟨mkT u 25 0 [(3, .ptr 3 b3 0), (5, .ptr 4 b5 0), (7, .ptr 5 b7 0), (8, .int .i64 x)], [⟨.blk b, .cells [.ptr 1 bp 0, .ptr 2 bg 0, c2, c3, c4, c5] 96⟩, pkA bp ptE (pt), pkA bg grpE s, ⟨.blk b3, .cells [.ptr 0 b 0] 24⟩, ⟨.blk b5, .cells [.int .i64 sig] 3⟩, ⟨.blk b7, .cells [.int .i64 (n)] 3⟩, dent D true, lp l rc .busy none]⟩) = ( b3 = b3 ∧ b5 = b5 ∧ true = true ∧ b = b ∧ true = true ∧ bp = bp ∧ ∃ (h : PT = PT), AdtIs (fun (s : PT) (b : Nat) ↦ packs (ptE s b)) ptE ∧ pOk pt ∧ match (pKill pt x sig).2 == (0 : Int) with
 | true => b7 = b7 ∧ (b7 = b7 ∧ true = true ∧ 1 = 1 ∧ 1 ≤ 1) ∧ E (Sy.mk (rawR u 0 (SV.ptr 3 b3 0 :: (SV.raw (u 4) :: (SV.ptr 4 b5 0 :: (SV.raw (u 6) :: (SV.ptr 5 b7 0 :: (SV.int .i64 x :: (rawR u 9 (SV.ptr 0 b 0 :: (SV.int .i64 x :: (SV.int .i64 sig :: (SV.int .i64 (pKill pt x sig).2 :: (SV.bool true :: (SV.int .i64 n :: (SV.int .i64 (IntKind.wrap IntKind.i64 (n + (1 : Int))) :: (SV.raw (u 24) :: [])))))))) 8))))))) 3) [Ent.mk (Loc.blk b) (SObj.cells [SV.ptr 1 bp 0, SV.ptr 2 bg 0, c2, c3, c4, c5] 96), pkA bp ptE (pKill pt x sig).1, pkA bg grpE s, Ent.mk (Loc.blk b3) (SObj.cells [SV.ptr 0 b 0] 24), Ent.mk (Loc.blk b5) (SObj.cells [SV.int .i64 sig] 3), Ent.mk (Loc.blk b7) (SObj.cells [SV.int .i64 (IntKind.wrap IntKind.i64 (n + (1 : Int)))] 3), dent D true, lp l rc LoopState.busy (@none Code)])
 | false => E (Sy.mk (rawR u 0 (SV.ptr 3 b3 0 :: (SV.raw (u 4) :: (SV.ptr 4 b5 0 :: (SV.raw (u 6) :: (SV.ptr 5 b7 0 :: (SV.int .i64 x :: (rawR u 9 (SV.ptr 0 b 0 :: (SV.int .i64 x :: (SV.int .i64 sig :: (SV.int .i64 (pKill pt x sig).2 :: (SV.bool false :: (rawR u 22 [] 3)))))) 8))))))) 3) [Ent.mk (Loc.blk b) (SObj.cells [SV.ptr 1 bp 0, SV.ptr 2 bg 0, c2, c3, c4, c5] 96), pkA bp ptE (pKill pt x sig).1, pkA bg grpE s, Ent.mk (Loc.blk b3) (SObj.cells [SV.ptr 0 b 0] 24), Ent.mk (Loc.blk b5) (SObj.cells [SV.int .i64 sig] 3), Ent.mk (Loc.blk b7) (SObj.cells [SV.int .i64 n] 3), dent D true, lp l rc LoopState.busy (@none Code)])) := by kernel_rfl
theorem kk_end (K : List Frm → Sy → Prop) (E : Sy → Prop) (N : List Ent → SV → Prop) (b : Nat) (c0 c2 c3 c4 c5 : SV) (bp bg : Nat) (pt : PT) (s : Grp) (g : ByteArray) (sig : Int) (b3 b5 b7 D l : Nat) (n : Int) (rc : Loop) (u : Nat → Value) : (runR Tryz.prog [] (noY) true [] K (endMX Tryz.prog Tryz.f12.results.toList D 6 N) E 900 ((frm [] (bodyOf Tryz.f12) [1, 1, 0, 1, 0] []).tail) ⟨mkT u 25 0 [(3, .ptr 3 b3 0), (5, .ptr 4 b5 0), (7, .ptr 5 b7 0)], [⟨.blk b, .cells [.ptr 1 bp 0, .ptr 2 bg 0, c2, c3, c4, c5] 96⟩, pkA bp ptE (pt), pkA bg grpE s, ⟨.blk b3, .cells [.ptr 0 b 0] 24⟩, ⟨.blk b5, .cells [.int .i64 sig] 3⟩, ⟨.blk b7, .cells [.int .i64 (n)] 3⟩, dent D true, lp l rc .exhausted none]⟩) = ( b7 = b7 ∧ some (dent D true) = some (dent D true) ∧ N [Ent.mk (Loc.blk b) (SObj.cells [SV.ptr 1 bp 0, SV.ptr 2 bg 0, c2, c3, c4, c5] 96), pkA bp ptE pt, pkA bg grpE s, Ent.mk (Loc.blk b3) (SObj.cells [SV.ptr 0 b 0] 24), Ent.mk (Loc.blk b5) (SObj.cells [SV.int .i64 sig] 3), Ent.mk (Loc.blk b7) (SObj.cells [SV.int .i64 n] 3), dent D false, lp l rc LoopState.exhausted (@none Code)] (SV.int .i64 n)) := by kernel_rfl
theorem add_run (K : List Frm → Sy → Prop) (N : List Ent → SV → Prop) (a c : Int) : (run Tryz.prog [] false [] K (retP Tryz.prog Tryz.f77.results.toList N) 600 [.code (bodyOf Tryz.f77)] ⟨padTo 39 [.int .i64 a, .int .i64 c], []⟩) = ( match a == (9223372036854775807 : Int) with
 | true => N [] (SV.int .i64 9223372036854775807)
 | false => match c == (9223372036854775807 : Int) with
  | true => N [] (SV.int .i64 9223372036854775807)
  | false => match decide (a > (0 : Int)) with
   | true => match decide (c > (0 : Int)) with
    | true => match decide (IntKind.wrap IntKind.i64 (a + c) < (0 : Int)) with
     | true => N [] (SV.int .i64 9223372036854775807)
     | false => match decide (a < (0 : Int)) with
      | true => match decide (c < (0 : Int)) with
       | true => match decide (IntKind.wrap IntKind.i64 (a + c) ≥ (0 : Int)) with
        | true => N [] (SV.int .i64 (-9223372036854775808 : Int))
        | false => N [] (SV.int .i64 (IntKind.wrap IntKind.i64 (a + c)))
       | false => N [] (SV.int .i64 (IntKind.wrap IntKind.i64 (a + c)))
      | false => N [] (SV.int .i64 (IntKind.wrap IntKind.i64 (a + c)))
    | false => match decide (a < (0 : Int)) with
     | true => match decide (c < (0 : Int)) with
      | true => match decide (IntKind.wrap IntKind.i64 (a + c) ≥ (0 : Int)) with
       | true => N [] (SV.int .i64 (-9223372036854775808 : Int))
       | false => N [] (SV.int .i64 (IntKind.wrap IntKind.i64 (a + c)))
      | false => N [] (SV.int .i64 (IntKind.wrap IntKind.i64 (a + c)))
     | false => N [] (SV.int .i64 (IntKind.wrap IntKind.i64 (a + c)))
   | false => match decide (a < (0 : Int)) with
    | true => match decide (c < (0 : Int)) with
     | true => match decide (IntKind.wrap IntKind.i64 (a + c) ≥ (0 : Int)) with
      | true => N [] (SV.int .i64 (-9223372036854775808 : Int))
      | false => N [] (SV.int .i64 (IntKind.wrap IntKind.i64 (a + c)))
     | false => N [] (SV.int .i64 (IntKind.wrap IntKind.i64 (a + c)))
    | false => N [] (SV.int .i64 (IntKind.wrap IntKind.i64 (a + c)))) := by kernel_rfl
@[reducible] def tick_run_z0 (b : Nat) (c0 : SV) (c1 : SV) (c2 : SV) (c3 : SV) (m : Int) (w : Int) : Ent := Ent.mk (Loc.blk b) (SObj.cells [c0, c1, c2, c3, SV.int .i64 m, SV.int .i64 w] 96)
theorem tick_run (K : List Frm → Sy → Prop) (N : List Ent → SV → Prop) (b : Nat) (c0 c1 c2 c3 : SV) (m w n : Int) : (run Tryz.prog [(77, addC)] true [200001] K (retP Tryz.prog Tryz.f33.results.toList N) 600 [.code (bodyOf Tryz.f33)] ⟨padTo 25 [.ptr 0 b 0, .int .i64 n], [⟨.blk b, .cells [c0, c1, c2, c3, .int .i64 m, .int .i64 w] 96⟩]⟩) = ( match decide (n < (0 : Int)) with
 | true => N [tick_run_z0 b c0 c1 c2 c3 m w] (SV.int .i64 10)
 | false => b = b ∧ b = b ∧ true = true ∧ (tick_run_z0 b c0 c1 c2 c3 m w = tick_run_z0 b c0 c1 c2 c3 m w ∧ True) ∧ true = true ∧ (tick_run_z0 b c0 c1 c2 c3 m w = tick_run_z0 b c0 c1 c2 c3 m w ∧ True) ∧ (b = b ∧ true = true ∧ 1 = 1 ∧ 5 ≤ 6) ∧ (b = b ∧ true = true ∧ 1 = 1 ∧ 6 ≤ 6) ∧ N [Ent.mk (Loc.blk b) (SObj.cells [c0, c1, c2, c3, SV.int .i64 (addS m n), SV.int .i64 (addS w n)] 96)] (SV.int .i64 0)) := by kernel_rfl
theorem pn_run (K : List Frm → Sy → Prop) (N : List Ent → SV → Prop) : (run Tryz.prog [] false [] K (retP Tryz.prog Tryz.f50.results.toList N) 600 [.code (bodyOf Tryz.f50)] ⟨padTo 4 [], []⟩) = ( ∀ (b : Nat), (true = true ∧ true = true) ∧ true = true ∧ ∀ (b_1 : Nat), N [Ent.mk (Loc.blk b) (SObj.mapV (@none IntKind) []), Ent.mk (Loc.blk b_1) (SObj.cells [SV.map 0 b, SV.raw (Value.slice (@none Addr) 0 0), SV.int .i64 0] 145)] (SV.ptr 1 b_1 0)) := by kernel_rfl
theorem tn_run (K : List Frm → Sy → Prop) (N : List Ent → SV → Prop) : (run Tryz.prog [] false [] K (retP Tryz.prog Tryz.f51.results.toList N) 600 [.code (bodyOf Tryz.f51)] ⟨padTo 7 [], []⟩) = ( ∀ (b : Nat), (b = b ∧ @none IntKind = @none IntKind ∧ @none IntKind = @none IntKind) ∧ ∀ (b_1 b_2 : Nat), (true = true ∧ true = true) ∧ true = true ∧ ∀ (b_3 : Nat), N [Ent.mk (Loc.blk b) (SObj.mapV (@none IntKind) [(Key.s (ByteArray.mk #[(47 : UInt8)]), SV.bool true)]), Ent.mk (Loc.blk b_1) (SObj.mapV (@none IntKind) []), Ent.mk (Loc.blk b_2) (SObj.mapV (@none IntKind) []), Ent.mk (Loc.blk b_3) (SObj.cells [SV.map 0 b, SV.map 1 b_1, SV.map 2 b_2] 150)] (SV.ptr 3 b_3 0)) := by kernel_rfl
end Go.Proofs.YtkcmgcoppecfpaaGreat

