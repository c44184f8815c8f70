/- slices.Sorted(maps.Keys(m)) at whole numbers: the keys, rising. -/
import Derived.Test.YtihajdkipkfiiaaAdt
import Derived.Test.YtihajdkipkfiiaaTab
import Derived.Test.YtihajdkipkfiiaaLayP
namespace Go.Proofs.Ytihajdkipkfiiaa
open Go Go.RowKit Go.Maps Go.Sort Go.Shelf
set_option linter.unusedVariables false
set_option linter.unusedSimpArgs false
set_option linter.unnecessarySimpa false

def encI1 (x : Int) : List SV := [.int .i64 x]
def keyInt : Key → Int
  | .i _ n => n
  | .s _ => 0
/-- A map's keys, rising. -/
def sortI {β : Type} (es : List (Key × β)) : List Int := (es.map fun e => keyInt e.1).mergeSort leI
/-- Are they keys of the kind? -/
def wfI {β : Type} (es : List (Key × β)) : Prop := keysOk es ∧ es.length ≤ 1000000000 ∧ ∀ e ∈ es, (Lit.int .i64 (keyInt e.1)).wf = true
/-- slices.Sorted at what maps.Keys handed back. -/
def srtIC (fI T : Nat) : Ctr := fun args hs N => match args with
  | [.func (.func f) [] [.ptr lb b 0]] => f = fI ∧ match nth hs lb with
    | some ⟨.blk b', .cells [.map lm rm] _⟩ => match nth hs lm with
      | some ⟨.blk rm', .mapL (β := β) kd enc es⟩ => (b' = b ∧ rm' = rm ∧ kd = some .i64 ∧ wfI es) ∧ ∀ ao cap, N (snoc hs ⟨.sl ao cap, .vecL T 1 encI1 (sortI es) 0⟩) (.vec (lenN hs) ao (sortI es).length cap)
      | _ => False
    | _ => False
  | _ => False

/-- The heap grows: a new block. -/
theorem H.below {W w w' : World} {L : List Ch} (h : H W w L) (hb : Below w.heap.size w w') : H W w' L :=
  ⟨h.st.trans ⟨hb.os, hb.tape, hb.output, hb.size⟩, h.nd, fun b o hm => by
    have := h.get b o hm
    rw [hb.block b (Array.getElem?_eq_some_iff.1 this).1]; exact this, h.fresh, fun b hlt => by rw [hb.block b (Nat.lt_of_lt_of_le hlt h.st.size)]; exact h.old b hlt⟩
theorem H.grow {W w w' : World} {L : List Ch} {g : Nat} {o : Obj} (h : H W w L) (hb : Below w.heap.size w w') (hg : w.heap.size ≤ g) (ho : w'.heap[g]? = some o) : H W w' ([(g, o)] :: L) := by
  have h1 := h.below hb
  refine ⟨h1.st, ?_, fun b q hm => ?_, fun b q hm => ?_, h1.old⟩
  · simp only [List.flatten_cons, List.singleton_append, List.map_cons, List.nodup_cons]
    refine ⟨fun hm => ?_, h.nd⟩
    obtain ⟨⟨b, q⟩, hm, he⟩ := List.mem_map.1 hm
    have he : b = g := he
    have := (Array.getElem?_eq_some_iff.1 (h.get b q hm)).1
    omega
  · simp only [List.flatten_cons, List.singleton_append, List.mem_cons, Prod.mk.injEq] at hm
    rcases hm with ⟨rfl, rfl⟩ | hm
    · exact ho
    · exact h1.get b q hm
  · simp only [List.flatten_cons, List.singleton_append, List.mem_cons, Prod.mk.injEq] at hm
    rcases hm with ⟨rfl, rfl⟩ | hm
    · exact Nat.le_trans h.st.size hg
    · exact h1.fresh b q hm

/-- What a map of ours is to the kit. -/
theorem owns_of {w : World} {rm : Nat} {ents : List MapEntry} {clock k : Nat} {β : Type} {enc : β → SV} {es : List (Key × β)} (hk : Try.prog.underlying k = some (.int .i64)) (hh : w.heap[rm]? = some (.map ents.toArray clock)) (hst : Stamped ents clock) (he : ents.map (fun e => (e.key, e.val)) = es.map fun e => (den e.1.sv, den (enc e.2)))
    (hks : ∀ e ∈ es, keyKind e.1 = some .i64) (hw : wfI es) : ∃ D0 : DataW Unit, w.ownsMap Try.prog k (fun _ => some (.lit (.bool true), [])) rm es.length D0 ∧ (intKeys D0).Perm (es.map fun e => keyInt e.1) ∧ Maps.size D0 = es.length := by
  have hlen : ents.length = es.length := by simpa using congrArg List.length he
  have hkey : ∀ e ∈ es, den e.1.sv = .int .i64 (keyInt e.1) := fun e hm => by
    have := hks e hm
    cases hq : e.1 with
    | i kk n => rw [hq] at this; cases this; rfl
    | s _ => rw [hq] at this; cases this
  have hmem : ∀ x ∈ ents, ∃ e ∈ es, x.key = .int .i64 (keyInt e.1) := fun x hx => by
    have : (x.key, x.val) ∈ es.map fun e => (den e.1.sv, den (enc e.2)) := by rw [← he]; exact List.mem_map.2 ⟨x, hx, rfl⟩
    obtain ⟨e, h1, h2⟩ := List.mem_map.1 this
    simp only [Prod.mk.injEq] at h2
    exact ⟨e, h1, by rw [← h2.1, hkey e h1]⟩
  have hrg : ∀ x ∈ ents, ∃ n, x.key = .int .i64 n ∧ WideElems.rd Try.prog k (fun _ => some ((.lit (.bool true) : DataW Unit), [])) x = some (.int .i64 n, .lit (.bool true)) := fun x hx => by
    obtain ⟨e, h1, h2⟩ := hmem x hx
    exact ⟨_, h2, by simp [WideElems.rd, h2, keyOf_int_mk hk (hw.2.2 e h1)]⟩
  have hkeys : ents.map (fun x => x.key) = es.map fun e => (Value.int .i64 (keyInt e.1)) := by
    have h1 := congrArg (List.map Prod.fst) he
    simp only [List.map_map, Function.comp_def] at h1
    rw [h1]
    exact List.map_congr_left fun e hm => hkey e hm
  refine ⟨_, ⟨ents.toArray, clock, hh, ⟨?_, ?_, ?_⟩, by simp [hlen], rfl⟩, ?_, ?_⟩
  · have := hw.2.1; simp [hlen, maxLen]; omega
  · refine (MapKept.stamped_iff _ _).2 ⟨by simpa using hst.2, by simpa using hst.1, ?_⟩
    have h1 : (ents.map (fun x => x.key)).Pairwise (· ≠ ·) := by
      rw [hkeys, List.pairwise_map]
      refine hw.1.imp_of_mem fun {a b} ha hb hab e => ?_
      injection e with _ e
      have h2 := hks a ha
      have h3 := hks b hb
      cases a with | mk ka va => cases b with | mk kb vb =>
      cases ka <;> cases kb <;> simp_all [keyKind, keyEq, keyInt]
    simpa [List.pairwise_map] using h1
  · intro x hx
    obtain ⟨n, _, h2⟩ := hrg x (by simpa using hx)
    exact ⟨_, h2⟩
  · show (((ents.toArray.toList.map (WideElems.rg Try.prog k _)).foldr DataW.insert []).map fun p => Go.intOf p.1).Perm _
    refine ((Go.WideShapes.sorted_perm _).map _).trans ?_
    simp only [List.map_map]
    have : ents.map ((fun p : Lit × DataW Unit => Go.intOf p.1) ∘ WideElems.rg Try.prog k (fun _ => some (.lit (.bool true), []))) = es.map fun e => keyInt e.1 := by
      have h1 : ents.map ((fun p : Lit × DataW Unit => Go.intOf p.1) ∘ WideElems.rg Try.prog k (fun _ => some (.lit (.bool true), []))) = (ents.map (fun x => x.key)).map fun v => match v with | .int _ n => n | _ => 0 := by
        rw [List.map_map]
        refine List.map_congr_left fun x hx => ?_
        obtain ⟨n, h2, h3⟩ := hrg x hx
        simp [WideElems.rg, h3, h2, Go.intOf]
      rw [h1, hkeys, List.map_map]
      rfl
    rw [this]
  · show ((ents.toArray.toList.map (WideElems.rg Try.prog k _)).foldr DataW.insert []).length = _
    rw [(Go.WideShapes.sorted_perm _).length_eq]; simp [hlen]

theorem sortsI (m : Nat) : AnyZI.SortsIn Try.prog sortedI_ren Fence.wide m :=
  ⟨fun blk off cap ss W hH hblk hsz => callsIn_wide.2 (AnyM.slices_Sort_int sortI_lay blk off cap ss W hH hblk hsz), fun p cap W => callsIn_wide.2 (AnyM.slices_Sort_int_none sortI_lay p cap W)⟩

theorem flat_one : ∀ l : List Int, flatV encI1 l = l.map encZ
  | [] => rfl
  | x :: l => by
    have := flat_one l
    unfold flatV at this ⊢
    simp only [List.flatMap_cons, List.map_cons, this]
    rfl
theorem srtI_ok {fI T : Nat} (hT : T = 3) (hg : ∃ fn, Try.prog.funcs[fI]? = some fn ∧ (fn.name == "runtime.NumGoroutine") = false ∧ ∃ c, fn.body = some c)
    (hK : ∀ (w : World) (b rm nn : Nat) (D0 : DataW Unit), b < w.heap.size → w.cell? ⟨b, 0, none⟩ = some (.map (some rm)) → w.ownsMap Try.prog 3 (fun _ => some (.lit (.bool true), [])) rm nn D0 →
      SeqGives Fence.wide 2 Try.prog fI #[.pointer (some ⟨b, 0, none⟩)] encZ (fun ss => ss.Perm (intKeys D0)) (Maps.size D0) w) : CtrOk Try.prog 80 (srtIC fI T) := by
  subst hT
  intro args hs N h
  unfold srtIC at h
  split at h
  case h_2 => exact h.elim
  rename_i f lb b
  obtain ⟨rfl, h⟩ := h
  split at h
  case h_2 => exact h.elim
  rename_i b' lm rm T' hlb
  split at h
  case h_2 => exact h.elim
  rename_i rm' β kd enc es hlm
  obtain ⟨⟨rfl, rfl, rfl, hw⟩, h⟩ := h
  intro W F w hr
  obtain ⟨fn, g1, g2, c, g3⟩ := hg
  have hcell : w.cell? ⟨b', 0, none⟩ = some (.map (some rm')) := by rw [hr.cells hlb]; rfl
  have hb : b' < w.heap.size := World.block_lt_of_cell? _ _ hcell
  obtain ⟨c0, L0, hc0, hH0, _⟩ := hr.get hlm
  obtain ⟨hks, ents, clock, rfl, hst, he⟩ := hc0
  obtain ⟨D0, o1, o2, o3⟩ := owns_of (k := 3) Try.underlying3 (hH0.heap .here) hst he hks hw
  have hseq := hK w b' rm' es.length D0 hb hcell o1
  have hlen := hw.2.1
  have cS := AnyZI.sorted_in sortedI Fence.wide 5 trivial trivial trivial trivial rfl (by omega) (sortsI _) (enters_of Try.func100 (by kernel_rfl) rfl) f #[.pointer (some ⟨b', 0, none⟩)] trivial (enters_of g1 g2 g3) _ _ (by rw [o3]; unfold maxLen; omega) (by rw [o3]; omega) _ hseq
  refine Calls.mono ((callsIn_wide (n := 5)).1 cS) ?_
  rintro e w' ⟨v, ss, rfl, hS, hrow, hnil, hbel⟩
  have hsort : ss.mergeSort leI = sortI es := mergeSort_of_perm_i (hS.trans o2)
  have hls : ss.length = (sortI es).length := by rw [← hsort, (List.mergeSort_perm ss leI).length_eq]
  have hflat : flatV encI1 (sortI es) = (sortI es).map encZ := flat_one (sortI es)
  rcases hrow.2 with ⟨rfl, h0⟩ | ⟨g, cap, cur, rfl, hge, hgb, hle, hcap, hsz, htk⟩
  · have hnl : sortI es = [] := List.eq_nil_of_length_eq_zero (by omega)
    refine ⟨_, _, h none 0, by rw [hnl]; rfl, ?_⟩
    have hr' : Rep W F hs w' := hr.move fun L hL => hL.below hbel
    rw [hnl]
    exact Rep.nilvec _ (sz := 1) (enc := encI1) 0 (fun _ => rfl) hr'
  · refine ⟨_, _, h (some ⟨g, 0, none⟩) cap, by rw [hls]; rfl, ?_⟩
    refine hr.new (c := [(g, .cells cur _ (0, 0))]) ⟨⟨by rw [hflat]; simp, by omega, .inr ⟨g, 0, cur, rfl, rfl, by omega, ?_⟩⟩, fun _ => rfl⟩ fun L hL => hL.grow hbel hge hgb
    have e1 : (sortI es).length * 1 = ss.length * 1 := by rw [hls]
    rw [List.drop_zero, hflat, e1, htk, ← hsort]
end Go.Proofs.Ytihajdkipkfiiaa
