import Derived.Test.YtihajdkipkfiiaaMgTrackPlays7
import Derived.Test.YtihajdkipkfiiaaMgTrackPlays6
import Derived.Test.YtihajdkipkfiiaaMgTrackPlays5
/- YtihajdkipkfiiaaTqP -/
/- TrackPlays: what is so behind each call. -/
namespace Go.Proofs.Ytihajdkipkfiiaa
open Go Go.RowKit Go.Maps Go.Sort Go.Shelf
set_option linter.unusedVariables false
set_option linter.unusedSimpArgs false
set_option linter.unnecessarySimpa false

/-- Behind i calls. -/
structure LT (bs : List StepT) (i : Nat) (s : Trk) (m : PRow) : Prop where
  tm : TM s m
  len : m.length ≤ 31 * i
  cnt : ∀ u, (pidsP m u).length ≤ i + 30
  un : ∀ x ∈ m, x.2 ∈ (bs.take i).map (·.unit)
theorem take_mono {α : Type} {l : List α} {i : Nat} {x : α} (h : x ∈ l.take i) : x ∈ l.take (i + 1) := by
  have e : l.take i = (l.take (i + 1)).take i := by rw [List.take_take]; congr 1; omega
  rw [e] at h
  exact List.mem_of_mem_take h
theorem un_mono {bs : List StepT} {i : Nat} {u : ByteArray} (h : u ∈ (bs.take i).map (·.unit)) : u ∈ (bs.take (i + 1)).map (·.unit) := by
  obtain ⟨y, hy, e⟩ := List.mem_map.1 h
  exact List.mem_map.2 ⟨y, take_mono hy, e⟩
theorem un_new {bs : List StepT} {i : Nat} (hi : i < bs.length) : bs[i].unit ∈ (bs.take (i + 1)).map (·.unit) := by
  refine List.mem_map.2 ⟨bs[i], ?_, rfl⟩
  rw [List.take_succ_eq_append_getElem hi]
  exact List.mem_append_right _ (List.mem_singleton.2 rfl)
section
variable {bs : List StepT} {i : Nat} {s s' : Trk} {m : PRow}
theorem LT.same (h : LT bs i s m) (ht : TM s' m) : LT bs (i + 1) s' m :=
  ⟨ht, by have := h.len; omega, fun u => by have := h.cnt u; omega, fun x hx => un_mono (h.un x hx)⟩
theorem LT.ins (h : LT bs i s m) {x : Int × ByteArray} (hu : x.2 ∈ (bs.take (i + 1)).map (·.unit)) (ht : TM s' (insP m x)) : LT bs (i + 1) s' (insP m x) :=
  ⟨ht, by have := h.len; rw [insP_len]; omega, fun u => by have h1 := h.cnt u; have h2 := pidsP_ins m x u; omega, fun y hy => by
    rcases mem_insP.1 hy with rfl | hy
    · exact hu
    · exact un_mono (h.un y hy)⟩
theorem LT.rm (h : LT bs i s m) {pid : Int} (ht : TM s' (rmP m pid)) : LT bs (i + 1) s' (rmP m pid) :=
  ⟨ht, by have h1 := h.len; have h2 := rmP_len m pid; omega, fun u => by have h1 := h.cnt u; have h2 := pidsP_rm m pid u; omega, fun y hy => un_mono (h.un y (mem_rmP.1 hy).1)⟩
theorem LT.sync (h : LT bs i s m) {u : ByteArray} {ps : List Int} (hu : u ∈ (bs.take (i + 1)).map (·.unit)) (hp : ps.length ≤ 30) (ht : TM s' (syncF m u ps).1) : LT bs (i + 1) s' (syncF m u ps).1 :=
  ⟨ht, by have h1 := h.len; have h2 := syncF_len m u ps; omega, fun v => by
    have h1 := h.cnt v
    rcases syncF_cnt m u ps v ht.asc with h2 | h2 <;> omega, fun y hy => by
    rcases syncF_mem hy with ⟨h1, _⟩ | ⟨h1, _⟩
    · exact un_mono (h.un y h1)
    · rw [h1]; exact hu⟩
end

/-! ### The units at the end -/
theorem bytesLess_ltT : ∀ (x y : List UInt8), Op.bytesLess x y = decide (x < y)
  | [], [] => by simp [Op.bytesLess]
  | _ :: _, [] => by simp [Op.bytesLess]
  | [], _ :: _ => by simp [Op.bytesLess]
  | a :: x, b :: y => by
    simp only [Op.bytesLess, bytesLess_ltT x y, List.cons_lt_cons_iff]
    by_cases h1 : a < b <;> by_cases h2 : a = b <;> by_cases h3 : x < y <;> simp [h1, h2, h3]
theorem mem_sortS {β : Type} {es : List (Key × β)} {u : ByteArray} : u ∈ sortS es ↔ ∃ e ∈ es, u = ofB (keyStr e.1) := by
  unfold sortS
  rw [List.mem_map]
  constructor
  · rintro ⟨l, hl, rfl⟩
    have h1 := (List.mergeSort_perm _ _).subset hl
    obtain ⟨e, he, rfl⟩ := List.mem_map.1 h1
    exact ⟨e, he, rfl⟩
  · rintro ⟨e, he, rfl⟩
    exact ⟨keyStr e.1, (List.mergeSort_perm _ _).symm.subset (List.mem_map.2 ⟨e, he, rfl⟩), rfl⟩
theorem ofB_str (b : ByteArray) : ofB (keyStr (.s b)) = b := by
  cases b
  simp [ofB, keyStr]
theorem sortS_len {β : Type} (es : List (Key × β)) : (sortS es).length = es.length := by
  unfold sortS
  rw [List.length_map, List.length_mergeSort, List.length_map]
/-- The keys stand rising, each once. -/
theorem sortS_lt {β : Type} {es : List (Key × β)} (hk : keysOk es) (hs : ∀ e ∈ es, ∃ n, e.1 = .s n) : (sortS es).Pairwise fun a b => sLt a b = true := by
  unfold sortS
  rw [List.pairwise_map]
  have hnd : (es.map fun e => keyStr e.1).Nodup := by
    unfold List.Nodup
    rw [List.pairwise_map]
    refine List.Pairwise.imp_of_mem ?_ hk
    intro a b ha hb hab e
    obtain ⟨x, e1⟩ := hs a ha
    obtain ⟨y, e2⟩ := hs b hb
    rw [e1, e2] at hab e
    rw [keyT_s] at hab
    have hne : x ≠ y := by simpa using hab
    refine hne ?_
    have h1 := ofB_str x
    have h2 := ofB_str y
    rw [← h1, ← h2, e]
  have hnd2 : ((es.map fun e => keyStr e.1).mergeSort leB).Nodup := (List.mergeSort_perm _ _).nodup_iff.2 hnd
  have tr : ∀ a b c : List UInt8, leB a b = true → leB b c = true → leB a c = true := fun a b c h1 h2 => by
    simp only [leB, decide_eq_true_eq] at h1 h2 ⊢
    exact List.le_trans h1 h2
  have tot : ∀ a b : List UInt8, (leB a b || leB b a) = true := fun a b => by
    simp only [leB, Bool.or_eq_true, decide_eq_true_eq]
    exact List.le_total a b
  refine (List.Pairwise.and (List.pairwise_mergeSort tr tot _) hnd2).imp fun {a b} ⟨h1, h2⟩ => ?_
  simp only [leB, decide_eq_true_eq] at h1
  unfold sLt
  have e1 : ∀ x : ByteArray, x.toList = x.data.toList := ByteArray.toList_eq
  rw [bytesLess_ltT, e1, e1]
  simp only [ofB, decide_eq_true_eq]
  rcases List.le_iff_lt_or_eq.1 h1 with h | h
  · exact decide_eq_true h
  · exact absurd h h2
theorem lawfulB : LawfulBEq ByteArray := { eq_of_beq := fun {a b} h => (bytes_beq a b).1 h, rfl := fun {a} => (bytes_beq a a).2 rfl }
theorem nodup_subB : ∀ {l l' : List ByteArray}, l.Nodup → (∀ x ∈ l, x ∈ l') → l.length ≤ l'.length
  | [], _, _, _ => Nat.zero_le _
  | x :: l, l', h, hs => by
    have hl := lawfulB
    have hc := List.nodup_cons.1 h
    have hx := hs x List.mem_cons_self
    have h1 := nodup_subB (l := l) (l' := l'.erase x) hc.2 fun y hy => by
      have hne : y ≠ x := fun e => hc.1 (e ▸ hy)
      exact (List.mem_erase_of_ne hne).2 (hs y (List.mem_cons_of_mem _ hy))
    have h2 := List.length_erase_of_mem hx
    have h3 := List.length_pos_of_mem hx
    simp only [List.length_cons]
    omega
section
variable {bs : List StepT} {i : Nat} {s : Trk} {m : PRow}
/-- A unit that is told has a process. -/
theorem TM.unit_of (h : TM s m) {u : ByteArray} (hu : u ∈ sortS s.ps) : ∃ p, (p, u) ∈ m := by
  obtain ⟨e, he, rfl⟩ := mem_sortS.1 hu
  obtain ⟨n, e1⟩ := h.ks e he
  have h1 : mget s.ps e.1 = some e.2 := mget_of_mem h.pk he
  rw [e1] at h1
  obtain ⟨_, h2, h3⟩ := h.set n e.2 h1
  obtain ⟨x, l, h4⟩ := List.exists_cons_of_ne_nil h2
  obtain ⟨p, _, h5⟩ := h3 x (by rw [h4]; exact List.mem_cons_self)
  rw [e1, ofB_str]
  exact ⟨p, h5⟩
theorem TM.of_unit (h : TM s m) {x : Int × ByteArray} (hx : x ∈ m) : x.2 ∈ sortS s.ps := by
  obtain ⟨y, h1, _⟩ := h.has x.1 x.2 hx
  obtain ⟨k', h2, h3⟩ := mget_mem h1
  refine mem_sortS.2 ⟨_, h2, ?_⟩
  dsimp only
  rw [keyEq_s h3, ofB_str]
theorem sLt_irrefl (a : ByteArray) : sLt a a = false := by
  unfold sLt
  rw [bytesLess_ltT]
  simp
theorem LT.units (h : LT bs i s m) : (sortS s.ps).length ≤ i := by
  have hn : (sortS s.ps).Nodup := (sortS_lt h.tm.pk h.tm.ks).imp fun {a b} hab e => by rw [e, sLt_irrefl] at hab; cases hab
  have h1 := nodup_subB hn (l' := (bs.take i).map (·.unit)) fun u hu => by
    obtain ⟨p, hp⟩ := h.tm.unit_of hu
    exact h.un _ hp
  simp only [List.length_map, List.length_take] at h1
  omega
theorem LT.wfS (h : LT bs i s m) (hi : i ≤ 1000) : wfS s.ps := by
  refine ⟨h.tm.pk, ?_, fun e he => ?_⟩
  · have h1 := h.units
    rw [sortS_len] at h1
    omega
  · obtain ⟨n, e1⟩ := h.tm.ks e he
    obtain ⟨p, hp⟩ := h.tm.unit_of (u := n) (mem_sortS.2 ⟨e, he, by rw [e1, ofB_str]⟩)
    have h2 := (h.tm.wf _ hp).2.2.2
    rw [e1]
    simp only [keyStr]
    have : n.data.toList.length = n.size := Array.length_toList
    dsimp only at h2
    rw [this]
    unfold maxLen
    omega
theorem main_eq (a c : Int) : mainL a c = mainW a c := by
  unfold mainL mainW mnI mxI
  by_cases h1 : a > 1 <;> by_cases h2 : c > 1 <;> by_cases h3 : c < a <;> by_cases h4 : c > a <;> by_cases h5 : a = c <;> first | omega | skip
  all_goals
    repeat' split
    all_goals
      simp only [decide_eq_true_eq, decide_eq_false_iff_not, Bool.and_eq_true, Bool.and_eq_false_iff, Bool.not_eq_true', beq_eq_false_iff_ne, bne_iff_ne, ne_eq, Bool.not_eq_false', beq_iff_eq] at *
      first | omega | (simp; omega) | rfl | skip
end

/-! ### Sync's rows stand in order -/
theorem syG_asc (ps : List Int) : ∀ (ws : List Int) (a : PRow × Int), Asc a.1 → Asc (ws.foldl (syG ps) a).1
  | [], a, h => h
  | p :: ws, a, h => by
    refine syG_asc ps ws (syG ps a p) ?_
    unfold syG
    split
    · exact h
    · exact rmP_asc h p
theorem syN_asc (u : ByteArray) : ∀ (ps : List Int) (a : PRow × Int), Asc a.1 → Asc (ps.foldl (syN u) a).1
  | [], a, h => h
  | p :: ps, a, h => by
    refine syN_asc u ps (syN u a p) ?_
    unfold syN
    split
    · exact h
    · exact insP_asc (rmP_asc h p) fun y hy => (mem_rmP.1 hy).2
theorem syG_keep (ps : List Int) : ∀ (ws : List Int) (a : PRow × Int) (x : Int × ByteArray), x ∈ a.1 → x.1 ∉ ws → x ∈ (ws.foldl (syG ps) a).1
  | [], a, x, h, _ => h
  | p :: ws, a, x, h, hn => by
    refine syG_keep ps ws (syG ps a p) x ?_ fun e => hn (List.mem_cons_of_mem _ e)
    unfold syG
    split
    · exact h
    · exact mem_rmP.2 ⟨h, fun e => hn (e ▸ List.mem_cons_self)⟩
/-- The next of a unit's processes is still there. -/
theorem syGone_there {m : PRow} (h : Asc m) (u : ByteArray) (ps : List Int) {j : Nat} (hj : j < (pidsP m u).length) : ((pidsP m u)[j], u) ∈ (syGone ps m ((pidsP m u).take j)).1 := by
  refine syG_keep ps _ (m, 0) _ (pidsP_mem.1 (List.getElem_mem hj)) fun hm => ?_
  have ha := pidsP_asc h u
  obtain ⟨k, hk, e⟩ := List.mem_iff_getElem.1 hm
  have hk2 : k < j := by simp at hk; omega
  rw [List.getElem_take] at e
  have := List.pairwise_iff_getElem.1 ha k j (by omega) hj hk2
  dsimp only at e
  omega
theorem syGone_asc {m : PRow} (h : Asc m) (ps ws : List Int) : Asc (syGone ps m ws).1 := syG_asc ps ws (m, 0) h
theorem syNew_asc {m : PRow} (h : Asc m) (u : ByteArray) (ps : List Int) : Asc (syNew u m ps).1 := syN_asc u ps (m, 0) h
theorem syGone_le (ps : List Int) (m : PRow) (ws : List Int) : (syGone ps m ws).1.length ≤ m.length := syG_len ps ws (m, 0)
theorem contains_next (ps : List Int) (q : Nat) (h : q < ps.length) (v : Int) : (ps.take (q + 1)).contains v = ((ps.take q).contains v || ps[q] == v) := by
  rw [List.take_succ_eq_append_getElem h, List.contains_eq_any_beq, List.contains_eq_any_beq, List.any_append]
  simp [Bool.beq_comm, eq_comm]
end Go.Proofs.Ytihajdkipkfiiaa

/- YtihajdkipkfiiaaTq0Run -/
namespace Go.Proofs.Ytihajdkipkfiiaa
set_option linter.unusedVariables false
open Go Go.RowKit
set_option maxHeartbeats 0
set_option maxRecDepth 100000
set_option linter.unusedVariables false
set_option allowUnsafeReducibility true
set_option maxRecDepth 100000

theorem known19 (K : List Frm → Sy → Prop) (N : List Ent → SV → Prop) : (run Try.prog tkT false [] K (retP Try.prog Try.f29.results.toList N) 3000 [.code (bodyOf Try.f29)] ⟨padTo 52 [], []⟩) = (
true = true ∧
 ∀ (b bo bp : Nat),
  true = true ∧
   b = b ∧
    ∃ (h : Trk = Trk),
     AdtIs (fun (s : Trk) (b : Nat) ↦ packs (trkE s b)) trkE ∧
      ∀ (nb : Nat),
       true = true ∧
        b = b ∧
         ∃ (h : Trk = Trk),
          AdtIs (fun (s : Trk) (b : Nat) ↦ packs (trkE s b)) trkE ∧
           ∀ (nb_1 : Nat),
            true = true ∧
             b = b ∧
              ∃ (h : Trk = Trk),
               AdtIs (fun (s : Trk) (b : Nat) ↦ packs (trkE s b)) trkE ∧
                tOk
                 (Trk.mk bo bp [(Key.i IntKind.i64 (2 : Int), ByteArray.mk #[(97 : UInt8)]), (Key.i IntKind.i64 (3 : Int), ByteArray.mk #[(97 : UInt8)])]
                  [(Key.s (ByteArray.mk #[(97 : UInt8)]), nb, [(Key.i IntKind.i64 (2 : Int), PUnit.unit), (Key.i IntKind.i64 (3 : Int), PUnit.unit)])])
                 (2 : Int) ∧
                 true = true ∧
                  b = b ∧
                   ∃ (h : Trk = Trk),
                    AdtIs (fun (s : Trk) (b : Nat) ↦ packs (trkE s b)) trkE ∧
                     true = true ∧
                      b = b ∧
                       ∃ (h : Trk = Trk),
                        AdtIs (fun (s : Trk) (b : Nat) ↦ packs (trkE s b)) trkE ∧
                         ∀ (nb_2 : Nat),
                          true = true ∧
                           b = b ∧
                            ∃ (h : Trk = Trk),
                             AdtIs (fun (s : Trk) (b : Nat) ↦ packs (trkE s b)) trkE ∧
                              ∀ (nb_3 : Nat),
                               N
                                [pkA b trkE
                                 (Trk.mk bo bp [(Key.i IntKind.i64 (3 : Int), ByteArray.mk #[(97 : UInt8)])]
                                  [(Key.s (ByteArray.mk #[(97 : UInt8)]), nb, [(Key.i IntKind.i64 (3 : Int), PUnit.unit)])])]
                                (SV.bool true)) := by kernel_rfl
end Go.Proofs.Ytihajdkipkfiiaa

/- YtihajdkipkfiiaaTq6Run -/
namespace Go.Proofs.Ytihajdkipkfiiaa
set_option linter.unusedVariables false
open Go Go.RowKit
set_option maxHeartbeats 0
set_option maxRecDepth 100000
set_option linter.unusedVariables false
set_option maxRecDepth 100000

theorem tq_68 (K : List Frm → Sy → Prop) (N : List Ent → SV → Prop) (J0 : Act → World → Prop) (ao : Option Addr) (cap : Nat) (bs : List StepT) (b : Nat) (s : Trk) (am : Option Addr) (cm : Nat) (m : PRow) (i : Nat) (x : StepT) (b6 : Nat) (u : Nat → Value) : (run Try.prog tqT false [75, 79] K (retP Try.prog Try.f10.results.toList N) 1500 (frmR [J0] (bodyOf Try.f10) 68) ⟨mkT u 471 0 [(0, .vec 0 ao bs.length cap), (3, .ptr 2 b 0), (4, .vec 3 am (m).length cm), (5, .int .i64 (i : Int)), (6, .ptr 4 b6 0)], [⟨.sl ao cap, .roL 5 encStepT bs StepT.zero⟩, factsT bs, pkA b trkE (s), ⟨.sl am cm, .vecL 88 2 encPr (m) zPr⟩, ⟨.blk b6, .cells [.int .i64 x.what, .int .i64 x.a, .int .i64 x.b, .str x.unit, .vec 5 x.ao x.pids.length x.cap] 84⟩, ⟨.sl x.ao x.cap, .roL 1 encI1 x.pids 0⟩]⟩) = (
b6 = b6 ∧
 (5 : Int) ≠ (0 : Int) ∧
  match Int.tmod x.2 (5 : Int) == (1 : Int) with
  | true =>
   b6 = b6 ∧
    true = true ∧
     ∃ (m_1 : PRow),
      some (Ent.mk (Loc.sl am cm) (SObj.vecL (88 : TypeId) 2 encPr m ((0 : Int), ByteArray.mk #[]))) = some (vecP am cm m_1) ∧
       (List.length m = List.length m_1 ∧ List.length m_1 ≤ 1000000) ∧
        ∀ (ao' : Option Addr) (cap' : Nat),
         K (frmR [J0] (bodyOf Try.f10) 79)
          (Sy.mk (SV.vec 0 ao (List.length bs) cap :: (SV.raw (u 1) :: (SV.raw (u 2) :: (SV.ptr 2 b 0 :: (SV.vec 3 am (List.length m) cm :: (SV.int IntKind.i64 (↑i : Int) :: (SV.ptr 4 b6 0 :: (rawR u 7 (SV.vec 6 ao' (List.length (pidsP m_1 x.4)) cap' :: (rawR u 27 (SV.ptr 4 b6 1 :: (SV.int IntKind.i64 x.2 :: (SV.int IntKind.i64 (Int.tmod x.2 (5 : Int)) :: (SV.bool true :: ((SV.bool (Int.tmod x.2 (5 : Int) == (1 : Int))) :: (SV.vec 3 am (List.length m) cm :: (SV.ptr 4 b6 3 :: (SV.str x.4 :: (SV.vec 6 ao' (List.length (pidsP m_1 x.4)) cap' :: (rawR u 356 [] 115)))))))))) 320)) 19))))))))
           [Ent.mk (Loc.sl ao cap) (SObj.roL 5 encStepT bs (StepT.mk (0 : Int) (0 : Int) (0 : Int) (ByteArray.mk #[]) (@none Addr) 0 0 [])), factsT bs, pkA b trkE s,
            Ent.mk (Loc.sl am cm) (SObj.vecL (88 : TypeId) 2 encPr m ((0 : Int), ByteArray.mk #[])),
            Ent.mk (Loc.blk b6)
             (SObj.cells [SV.int IntKind.i64 x.1, SV.int IntKind.i64 x.2, SV.int IntKind.i64 x.3, SV.str x.4, SV.vec 5 x.ao (List.length x.8) x.7] (84 : TypeId)),
            Ent.mk (Loc.sl x.ao x.7) (SObj.roL 1 encI1 x.8 (0 : Int)), Ent.mk (Loc.sl ao' cap') (SObj.vecL (3 : TypeId) 1 encI1 (pidsP m_1 x.4) (0 : Int))])
  | false =>
   match Int.tmod x.2 (5 : Int) == (2 : Int) with
   | true =>
    b6 = b6 ∧
     match decide (x.2 > (1 : Int)) with
     | true =>
      b6 = b6 ∧
       (true = true ∧ 1 = 1 ∧ 0 < 1 ∧ 1 ≤ 16777216) ∧
        ∀ (b_1 : Nat),
         (some (Addr.mk b_1 0 (@none Nat)) = some (Addr.mk b_1 0 (@none Nat)) ∧
          1 = 1 ∧ 0 < 1 ∧ true = true ∧ 8 ≤ 140737488355328 ∧ 1 ≤ 9223372036854775807) ∧
          ∀ (ao2 : Option Addr) (cap2 : Nat),
           1 ≤ cap2 →
            K (frmR [J0] (bodyOf Try.f10) 75)
             (Sy.mk (SV.vec 0 ao (List.length bs) cap :: (SV.raw (u 1) :: (SV.raw (u 2) :: (SV.ptr 2 b 0 :: (SV.vec 3 am (List.length m) cm :: (SV.int IntKind.i64 (↑i : Int) :: (SV.ptr 4 b6 0 :: (rawR u 7 (SV.vec 7 ao2 1 cap2 :: (rawR u 27 (SV.ptr 4 b6 1 :: (SV.int IntKind.i64 x.2 :: (SV.int IntKind.i64 (Int.tmod x.2 (5 : Int)) :: (SV.bool false :: ((SV.bool (Int.tmod x.2 (5 : Int) == (1 : Int))) :: (rawR u 352 (SV.bool true :: ((SV.bool (Int.tmod x.2 (5 : Int) == (2 : Int))) :: (SV.ptr 4 b6 1 :: (SV.int IntKind.i64 x.2 :: (SV.bool true :: (SV.raw (Value.slice (@none Addr) 0 0) :: (SV.ptr 4 b6 1 :: (SV.int IntKind.i64 x.2 :: (SV.vec 6 (some (Addr.mk b_1 0 (@none Nat))) 1 1 :: (SV.vec 7 ao2 1 cap2 :: (rawR u 366 [] 105))))))))))) 4)))))) 320)) 19))))))))
              [Ent.mk (Loc.sl ao cap) (SObj.roL 5 encStepT bs (StepT.mk (0 : Int) (0 : Int) (0 : Int) (ByteArray.mk #[]) (@none Addr) 0 0 [])), factsT bs,
               pkA b trkE s, Ent.mk (Loc.sl am cm) (SObj.vecL (88 : TypeId) 2 encPr m ((0 : Int), ByteArray.mk #[])),
               Ent.mk (Loc.blk b6)
                (SObj.cells [SV.int IntKind.i64 x.1, SV.int IntKind.i64 x.2, SV.int IntKind.i64 x.3, SV.str x.4, SV.vec 5 x.ao (List.length x.8) x.7] (84 : TypeId)),
               Ent.mk (Loc.sl x.ao x.7) (SObj.roL 1 encI1 x.8 (0 : Int)), Ent.mk (Loc.blk b_1) (SObj.cells [SV.int IntKind.i64 x.2] 3),
               Ent.mk (Loc.sl ao2 cap2) (SObj.vecV 3 1 1 [SV.int IntKind.i64 x.2])])
     | false =>
      K (frmR [J0] (bodyOf Try.f10) 75)
       (Sy.mk (SV.vec 0 ao (List.length bs) cap :: (SV.raw (u 1) :: (SV.raw (u 2) :: (SV.ptr 2 b 0 :: (SV.vec 3 am (List.length m) cm :: (SV.int IntKind.i64 (↑i : Int) :: (SV.ptr 4 b6 0 :: (rawR u 7 (SV.raw (Value.slice (@none Addr) 0 0) :: (rawR u 27 (SV.ptr 4 b6 1 :: (SV.int IntKind.i64 x.2 :: (SV.int IntKind.i64 (Int.tmod x.2 (5 : Int)) :: (SV.bool false :: ((SV.bool (Int.tmod x.2 (5 : Int) == (1 : Int))) :: (rawR u 352 (SV.bool true :: ((SV.bool (Int.tmod x.2 (5 : Int) == (2 : Int))) :: (SV.ptr 4 b6 1 :: (SV.int IntKind.i64 x.2 :: (SV.bool false :: (rawR u 361 [] 110)))))) 4)))))) 320)) 19))))))))
        [Ent.mk (Loc.sl ao cap) (SObj.roL 5 encStepT bs (StepT.mk (0 : Int) (0 : Int) (0 : Int) (ByteArray.mk #[]) (@none Addr) 0 0 [])), factsT bs, pkA b trkE s,
         Ent.mk (Loc.sl am cm) (SObj.vecL (88 : TypeId) 2 encPr m ((0 : Int), ByteArray.mk #[])),
         Ent.mk (Loc.blk b6) (SObj.cells [SV.int IntKind.i64 x.1, SV.int IntKind.i64 x.2, SV.int IntKind.i64 x.3, SV.str x.4, SV.vec 5 x.ao (List.length x.8) x.7] (84 : TypeId)),
         Ent.mk (Loc.sl x.ao x.7) (SObj.roL 1 encI1 x.8 (0 : Int))])
   | false =>
    K (frmR [J0] (bodyOf Try.f10) 79)
     (Sy.mk (SV.vec 0 ao (List.length bs) cap :: (SV.raw (u 1) :: (SV.raw (u 2) :: (SV.ptr 2 b 0 :: (SV.vec 3 am (List.length m) cm :: (SV.int IntKind.i64 (↑i : Int) :: (SV.ptr 4 b6 0 :: (rawR u 7 (SV.raw (Value.slice (@none Addr) 0 0) :: (rawR u 27 (SV.ptr 4 b6 1 :: (SV.int IntKind.i64 x.2 :: (SV.int IntKind.i64 (Int.tmod x.2 (5 : Int)) :: (SV.bool false :: ((SV.bool (Int.tmod x.2 (5 : Int) == (1 : Int))) :: (rawR u 352 (SV.bool false :: ((SV.bool (Int.tmod x.2 (5 : Int) == (2 : Int))) :: (rawR u 358 [] 113))) 4)))))) 320)) 19))))))))
      [Ent.mk (Loc.sl ao cap) (SObj.roL 5 encStepT bs (StepT.mk (0 : Int) (0 : Int) (0 : Int) (ByteArray.mk #[]) (@none Addr) 0 0 [])), factsT bs, pkA b trkE s,
       Ent.mk (Loc.sl am cm) (SObj.vecL (88 : TypeId) 2 encPr m ((0 : Int), ByteArray.mk #[])),
       Ent.mk (Loc.blk b6) (SObj.cells [SV.int IntKind.i64 x.1, SV.int IntKind.i64 x.2, SV.int IntKind.i64 x.3, SV.str x.4, SV.vec 5 x.ao (List.length x.8) x.7] (84 : TypeId)),
       Ent.mk (Loc.sl x.ao x.7) (SObj.roL 1 encI1 x.8 (0 : Int))])) := by kernel_rfl


theorem tq_75 (K : List Frm → Sy → Prop) (N : List Ent → SV → Prop) (J0 : Act → World → Prop) (ao : Option Addr) (cap : Nat) (bs : List StepT) (b : Nat) (s : Trk) (am : Option Addr) (cm : Nat) (m : PRow) (i : Nat) (x : StepT) (b6 : Nat) (aw : Option Addr) (cw : Nat) (ws : List Int) (u : Nat → Value) : (run Try.prog tqT false [77] K (retP Try.prog Try.f10.results.toList N) 1500 (frmR [J0] (bodyOf Try.f10) 75) ⟨mkT u 471 0 [(0, .vec 0 ao bs.length cap), (3, .ptr 2 b 0), (4, .vec 3 am (m).length cm), (5, .int .i64 (i : Int)), (6, .ptr 4 b6 0), (26, .vec 6 aw ws.length cw)], [⟨.sl ao cap, .roL 5 encStepT bs StepT.zero⟩, factsT bs, pkA b trkE (s), ⟨.sl am cm, .vecL 88 2 encPr (m) zPr⟩, ⟨.blk b6, .cells [.int .i64 x.what, .int .i64 x.a, .int .i64 x.b, .str x.unit, .vec 5 x.ao x.pids.length x.cap] 84⟩, ⟨.sl x.ao x.cap, .roL 1 encI1 x.pids 0⟩, ⟨.sl aw cw, .vecL 3 1 encI1 ws 0⟩]⟩) = (
b6 = b6 ∧
 match decide (x.3 > (1 : Int)) with
 | true =>
  b6 = b6 ∧
   b6 = b6 ∧
    match decide (x.3 < x.2) with
    | true =>
     b6 = b6 ∧
      (true = true ∧ 1 = 1 ∧ 0 < 1 ∧ 1 ≤ 16777216) ∧
       ∀ (b_1 : Nat),
        (some (Addr.mk b_1 0 (@none Nat)) = some (Addr.mk b_1 0 (@none Nat)) ∧
         1 = 1 ∧
          3 = 3 ∧
           aw = aw ∧
            List.length ws = List.length ws ∧
             1 = 1 ∧
              (∀ (y : Int), true = true) ∧ (1 + List.length ws) * 8 ≤ 140737488355328 ∧ 1 + List.length ws ≤ 9223372036854775807) ∧
         ∃ (es : List Int),
          List.length es = 1 ∧
           List.flatMap encI1 es = [SV.int IntKind.i64 x.3] ∧
            ∀ (ao2 : Option Addr) (cap2 : Nat),
             1 + List.length ws ≤ cap2 →
              K (frmR [J0] (bodyOf Try.f10) 77)
               (Sy.mk (SV.vec 0 ao (List.length bs) cap :: (SV.raw (u 1) :: (SV.raw (u 2) :: (SV.ptr 2 b 0 :: (SV.vec 3 am (List.length m) cm :: (SV.int IntKind.i64 (↑i : Int) :: (SV.ptr 4 b6 0 :: (rawR u 7 (SV.vec 7 ao2 (1 + List.length ws) cap2 :: (rawR u 27 (SV.ptr 4 b6 2 :: (SV.int IntKind.i64 x.3 :: (SV.bool (decide (x.3 > (1 : Int))) :: (SV.bool true :: (SV.ptr 4 b6 2 :: (SV.int IntKind.i64 x.3 :: (SV.ptr 4 b6 1 :: (SV.int IntKind.i64 x.2 :: (SV.bool (decide (x.3 < x.2)) :: (SV.bool true :: (SV.ptr 4 b6 2 :: (SV.int IntKind.i64 x.3 :: (SV.vec 7 (some (Addr.mk b_1 0 (@none Nat))) 1 1 :: (SV.vec 6 aw (List.length ws) cw :: (SV.vec 7 ao2 (1 + List.length ws) cap2 :: (rawR u 381 [] 90)))))))))))))))) 339)) 19))))))))
                [Ent.mk (Loc.sl ao cap) (SObj.roL 5 encStepT bs (StepT.mk (0 : Int) (0 : Int) (0 : Int) (ByteArray.mk #[]) (@none Addr) 0 0 [])), factsT bs,
                 pkA b trkE s, Ent.mk (Loc.sl am cm) (SObj.vecL (88 : TypeId) 2 encPr m ((0 : Int), ByteArray.mk #[])),
                 Ent.mk (Loc.blk b6)
                  (SObj.cells [SV.int IntKind.i64 x.1, SV.int IntKind.i64 x.2, SV.int IntKind.i64 x.3, SV.str x.4, SV.vec 5 x.ao (List.length x.8) x.7] (84 : TypeId)),
                 Ent.mk (Loc.sl x.ao x.7) (SObj.roL 1 encI1 x.8 (0 : Int)), Ent.mk (Loc.sl aw cw) (SObj.vecL (3 : TypeId) 1 encI1 ws (0 : Int)),
                 Ent.mk (Loc.sl ao2 cap2) (SObj.vecL 3 1 encI1 (es ++ ws) (0 : Int))])
    | false =>
     K (frmR [J0] (bodyOf Try.f10) 77)
      (Sy.mk (SV.vec 0 ao (List.length bs) cap :: (SV.raw (u 1) :: (SV.raw (u 2) :: (SV.ptr 2 b 0 :: (SV.vec 3 am (List.length m) cm :: (SV.int IntKind.i64 (↑i : Int) :: (SV.ptr 4 b6 0 :: (rawR u 7 (SV.vec 6 aw (List.length ws) cw :: (rawR u 27 (SV.ptr 4 b6 2 :: (SV.int IntKind.i64 x.3 :: (SV.bool (decide (x.3 > (1 : Int))) :: (SV.bool true :: (SV.ptr 4 b6 2 :: (SV.int IntKind.i64 x.3 :: (SV.ptr 4 b6 1 :: (SV.int IntKind.i64 x.2 :: (SV.bool (decide (x.3 < x.2)) :: (SV.bool false :: (rawR u 376 [] 95))))))))))) 339)) 19))))))))
       [Ent.mk (Loc.sl ao cap) (SObj.roL 5 encStepT bs (StepT.mk (0 : Int) (0 : Int) (0 : Int) (ByteArray.mk #[]) (@none Addr) 0 0 [])), factsT bs, pkA b trkE s,
        Ent.mk (Loc.sl am cm) (SObj.vecL (88 : TypeId) 2 encPr m ((0 : Int), ByteArray.mk #[])),
        Ent.mk (Loc.blk b6) (SObj.cells [SV.int IntKind.i64 x.1, SV.int IntKind.i64 x.2, SV.int IntKind.i64 x.3, SV.str x.4, SV.vec 5 x.ao (List.length x.8) x.7] (84 : TypeId)),
        Ent.mk (Loc.sl x.ao x.7) (SObj.roL 1 encI1 x.8 (0 : Int)), Ent.mk (Loc.sl aw cw) (SObj.vecL (3 : TypeId) 1 encI1 ws (0 : Int))])
 | false =>
  K (frmR [J0] (bodyOf Try.f10) 77)
   (Sy.mk (SV.vec 0 ao (List.length bs) cap :: (SV.raw (u 1) :: (SV.raw (u 2) :: (SV.ptr 2 b 0 :: (SV.vec 3 am (List.length m) cm :: (SV.int IntKind.i64 (↑i : Int) :: (SV.ptr 4 b6 0 :: (rawR u 7 (SV.vec 6 aw (List.length ws) cw :: (rawR u 27 (SV.ptr 4 b6 2 :: (SV.int IntKind.i64 x.3 :: (SV.bool (decide (x.3 > (1 : Int))) :: (SV.bool false :: (rawE (SV.bool false :: (rawR u 376 [] 95)) 5))))) 339)) 19))))))))
    [Ent.mk (Loc.sl ao cap) (SObj.roL 5 encStepT bs (StepT.mk (0 : Int) (0 : Int) (0 : Int) (ByteArray.mk #[]) (@none Addr) 0 0 [])), factsT bs, pkA b trkE s,
     Ent.mk (Loc.sl am cm) (SObj.vecL (88 : TypeId) 2 encPr m ((0 : Int), ByteArray.mk #[])),
     Ent.mk (Loc.blk b6) (SObj.cells [SV.int IntKind.i64 x.1, SV.int IntKind.i64 x.2, SV.int IntKind.i64 x.3, SV.str x.4, SV.vec 5 x.ao (List.length x.8) x.7] (84 : TypeId)),
     Ent.mk (Loc.sl x.ao x.7) (SObj.roL 1 encI1 x.8 (0 : Int)), Ent.mk (Loc.sl aw cw) (SObj.vecL (3 : TypeId) 1 encI1 ws (0 : Int))])) := by kernel_rfl


theorem tq_77 (K : List Frm → Sy → Prop) (N : List Ent → SV → Prop) (J0 : Act → World → Prop) (ao : Option Addr) (cap : Nat) (bs : List StepT) (b : Nat) (s : Trk) (am : Option Addr) (cm : Nat) (m : PRow) (i : Nat) (x : StepT) (b6 : Nat) (aw : Option Addr) (cw : Nat) (ws : List Int) (u : Nat → Value) : (run Try.prog tqT false [79] K (retP Try.prog Try.f10.results.toList N) 1500 (frmR [J0] (bodyOf Try.f10) 77) ⟨mkT u 471 0 [(0, .vec 0 ao bs.length cap), (3, .ptr 2 b 0), (4, .vec 3 am (m).length cm), (5, .int .i64 (i : Int)), (6, .ptr 4 b6 0), (26, .vec 6 aw ws.length cw)], [⟨.sl ao cap, .roL 5 encStepT bs StepT.zero⟩, factsT bs, pkA b trkE (s), ⟨.sl am cm, .vecL 88 2 encPr (m) zPr⟩, ⟨.blk b6, .cells [.int .i64 x.what, .int .i64 x.a, .int .i64 x.b, .str x.unit, .vec 5 x.ao x.pids.length x.cap] 84⟩, ⟨.sl x.ao x.cap, .roL 1 encI1 x.pids 0⟩, ⟨.sl aw cw, .vecL 3 1 encI1 ws 0⟩]⟩) = (
b6 = b6 ∧
 match decide (x.3 > (1 : Int)) with
 | true =>
  b6 = b6 ∧
   b6 = b6 ∧
    match decide (x.3 > x.2) with
    | true =>
     b6 = b6 ∧
      (true = true ∧ 1 = 1 ∧ 0 < 1 ∧ 1 ≤ 16777216) ∧
       ∀ (b_1 : Nat),
        (aw = aw ∧
         cw = cw ∧
          List.length ws = List.length ws ∧
           some (Addr.mk b_1 0 (@none Nat)) = some (Addr.mk b_1 0 (@none Nat)) ∧
            (3 : TypeId) = 3 ∧
             1 = 1 ∧
              1 = 1 ∧
               0 < 1 ∧ true = true ∧ (List.length ws + 1) * 8 ≤ 140737488355328 ∧ List.length ws + 1 ≤ 9223372036854775807) ∧
         ∃ (es : List Int),
          List.length es = 1 ∧
           List.flatMap encI1 es = [SV.int IntKind.i64 x.3] ∧
            ∀ (ao2 : Option Addr) (cap2 : Nat),
             List.length ws + 1 ≤ cap2 →
              K (frmR [J0] (bodyOf Try.f10) 79)
               (Sy.mk (SV.vec 0 ao (List.length bs) cap :: (SV.raw (u 1) :: (SV.raw (u 2) :: (SV.ptr 2 b 0 :: (SV.vec 3 am (List.length m) cm :: (SV.int IntKind.i64 (↑i : Int) :: (SV.ptr 4 b6 0 :: (rawR u 7 (SV.vec 6 ao2 (List.length ws + 1) cap2 :: (rawR u 27 (SV.ptr 4 b6 2 :: (SV.int IntKind.i64 x.3 :: (SV.bool (decide (x.3 > (1 : Int))) :: (SV.bool true :: (SV.ptr 4 b6 2 :: (SV.int IntKind.i64 x.3 :: (SV.ptr 4 b6 1 :: (SV.int IntKind.i64 x.2 :: (SV.bool (decide (x.3 > x.2)) :: (SV.bool true :: (SV.vec 6 aw (List.length ws) cw :: (SV.ptr 4 b6 2 :: (SV.int IntKind.i64 x.3 :: (SV.vec 7 (some (Addr.mk b_1 0 (@none Nat))) 1 1 :: (SV.vec 6 ao2 (List.length ws + 1) cap2 :: (rawR u 396 [] 75)))))))))))))))) 354)) 19))))))))
                [Ent.mk (Loc.sl ao cap) (SObj.roL 5 encStepT bs (StepT.mk (0 : Int) (0 : Int) (0 : Int) (ByteArray.mk #[]) (@none Addr) 0 0 [])), factsT bs,
                 pkA b trkE s, Ent.mk (Loc.sl am cm) (SObj.vecL (88 : TypeId) 2 encPr m ((0 : Int), ByteArray.mk #[])),
                 Ent.mk (Loc.blk b6)
                  (SObj.cells [SV.int IntKind.i64 x.1, SV.int IntKind.i64 x.2, SV.int IntKind.i64 x.3, SV.str x.4, SV.vec 5 x.ao (List.length x.8) x.7] (84 : TypeId)),
                 Ent.mk (Loc.sl x.ao x.7) (SObj.roL 1 encI1 x.8 (0 : Int)), Ent.mk (Loc.sl ao2 cap2) (SObj.vecL (3 : TypeId) 1 encI1 (ws ++ es) (0 : Int)),
                 Ent.mk (Loc.blk b_1) (SObj.cells [SV.int IntKind.i64 x.3] 3)])
    | false =>
     K (frmR [J0] (bodyOf Try.f10) 79)
      (Sy.mk (SV.vec 0 ao (List.length bs) cap :: (SV.raw (u 1) :: (SV.raw (u 2) :: (SV.ptr 2 b 0 :: (SV.vec 3 am (List.length m) cm :: (SV.int IntKind.i64 (↑i : Int) :: (SV.ptr 4 b6 0 :: (rawR u 7 (SV.vec 6 aw (List.length ws) cw :: (rawR u 27 (SV.ptr 4 b6 2 :: (SV.int IntKind.i64 x.3 :: (SV.bool (decide (x.3 > (1 : Int))) :: (SV.bool true :: (SV.ptr 4 b6 2 :: (SV.int IntKind.i64 x.3 :: (SV.ptr 4 b6 1 :: (SV.int IntKind.i64 x.2 :: (SV.bool (decide (x.3 > x.2)) :: (SV.bool false :: (rawR u 391 [] 80))))))))))) 354)) 19))))))))
       [Ent.mk (Loc.sl ao cap) (SObj.roL 5 encStepT bs (StepT.mk (0 : Int) (0 : Int) (0 : Int) (ByteArray.mk #[]) (@none Addr) 0 0 [])), factsT bs, pkA b trkE s,
        Ent.mk (Loc.sl am cm) (SObj.vecL (88 : TypeId) 2 encPr m ((0 : Int), ByteArray.mk #[])),
        Ent.mk (Loc.blk b6) (SObj.cells [SV.int IntKind.i64 x.1, SV.int IntKind.i64 x.2, SV.int IntKind.i64 x.3, SV.str x.4, SV.vec 5 x.ao (List.length x.8) x.7] (84 : TypeId)),
        Ent.mk (Loc.sl x.ao x.7) (SObj.roL 1 encI1 x.8 (0 : Int)), Ent.mk (Loc.sl aw cw) (SObj.vecL (3 : TypeId) 1 encI1 ws (0 : Int))])
 | false =>
  K (frmR [J0] (bodyOf Try.f10) 79)
   (Sy.mk (SV.vec 0 ao (List.length bs) cap :: (SV.raw (u 1) :: (SV.raw (u 2) :: (SV.ptr 2 b 0 :: (SV.vec 3 am (List.length m) cm :: (SV.int IntKind.i64 (↑i : Int) :: (SV.ptr 4 b6 0 :: (rawR u 7 (SV.vec 6 aw (List.length ws) cw :: (rawR u 27 (SV.ptr 4 b6 2 :: (SV.int IntKind.i64 x.3 :: (SV.bool (decide (x.3 > (1 : Int))) :: (SV.bool false :: (rawE (SV.bool false :: (rawR u 391 [] 80)) 5))))) 354)) 19))))))))
    [Ent.mk (Loc.sl ao cap) (SObj.roL 5 encStepT bs (StepT.mk (0 : Int) (0 : Int) (0 : Int) (ByteArray.mk #[]) (@none Addr) 0 0 [])), factsT bs, pkA b trkE s,
     Ent.mk (Loc.sl am cm) (SObj.vecL (88 : TypeId) 2 encPr m ((0 : Int), ByteArray.mk #[])),
     Ent.mk (Loc.blk b6) (SObj.cells [SV.int IntKind.i64 x.1, SV.int IntKind.i64 x.2, SV.int IntKind.i64 x.3, SV.str x.4, SV.vec 5 x.ao (List.length x.8) x.7] (84 : TypeId)),
     Ent.mk (Loc.sl x.ao x.7) (SObj.roL 1 encI1 x.8 (0 : Int)), Ent.mk (Loc.sl aw cw) (SObj.vecL (3 : TypeId) 1 encI1 ws (0 : Int))])) := by kernel_rfl


theorem tq_79 (K : List Frm → Sy → Prop) (N : List Ent → SV → Prop) (J0 : Act → World → Prop) (ao : Option Addr) (cap : Nat) (bs : List StepT) (b : Nat) (s : Trk) (am : Option Addr) (cm : Nat) (m : PRow) (i : Nat) (x : StepT) (b6 : Nat) (aw : Option Addr) (cw : Nat) (ws : List Int) (u : Nat → Value) : (run Try.prog tqT false [] K (retP Try.prog Try.f10.results.toList N) 1500 (frmR [J0] (bodyOf Try.f10) 79) ⟨mkT u 471 0 [(0, .vec 0 ao bs.length cap), (3, .ptr 2 b 0), (4, .vec 3 am (m).length cm), (5, .int .i64 (i : Int)), (6, .ptr 4 b6 0), (26, .vec 6 aw ws.length cw)], [⟨.sl ao cap, .roL 5 encStepT bs StepT.zero⟩, factsT bs, pkA b trkE (s), ⟨.sl am cm, .vecL 88 2 encPr (m) zPr⟩, ⟨.blk b6, .cells [.int .i64 x.what, .int .i64 x.a, .int .i64 x.b, .str x.unit, .vec 5 x.ao x.pids.length x.cap] 84⟩, ⟨.sl x.ao x.cap, .roL 1 encI1 x.pids 0⟩, ⟨.sl aw cw, .vecL 3 1 encI1 ws 0⟩]⟩) = (
b6 = b6 ∧
 b6 = b6 ∧
  (5 : Int) ≠ (0 : Int) ∧
   b6 = b6 ∧
    b6 = b6 ∧
     true = true ∧
      b = b ∧
       ∃ (h : Trk = Trk),
        AdtIs (fun (s : Trk) (b : Nat) ↦ packs (trkE s b)) trkE ∧
         (pidsOk (cast h s) x.4 ∧ List.length (pidsL s x.4) ≤ 1000000) ∧
          ∀ (ao_1 : Option Addr) (cap_1 : Nat),
           true = true ∧
            ∃ (xs : List Int),
             some (Ent.mk (Loc.sl ao_1 cap_1) (SObj.vecL (3 : TypeId) 1 encI1 (targL s x.4 (Int.tmod x.2 (5 : Int)) x.2 x.3) (0 : Int))) =
              some (Ent.mk (Loc.sl ao_1 cap_1) (SObj.vecL (3 : TypeId) 1 encI1 xs (0 : Int))) ∧
              some (Ent.mk (Loc.sl aw cw) (SObj.vecL (3 : TypeId) 1 encI1 ws (0 : Int))) = some (Ent.mk (Loc.sl aw cw) (SObj.vecL (3 : TypeId) 1 encI1 xs (0 : Int))) ∧
               (false = false ∧ List.length (targL s x.4 (Int.tmod x.2 (5 : Int)) x.2 x.3) = List.length xs ∧ List.length ws = List.length xs ∧ List.length xs ≤ 1000000) ∧
                K (Frm.loop J0 :: Frm.blk 0 :: frm [] (bodyOf Try.f10) [1, 1, 1, 1, 1, 1] [])
                 (Sy.mk (SV.vec 0 ao (List.length bs) cap :: (SV.raw (u 1) :: (SV.raw (u 2) :: (SV.ptr 2 b 0 :: (SV.vec 3 am (List.length m) cm :: (SV.int IntKind.i64 (IntKind.wrap IntKind.i64 ((↑i : Int) + (1 : Int))) :: (SV.ptr 4 b6 0 :: (rawR u 7 (SV.vec 6 aw (List.length ws) cw :: (rawR u 27 (SV.int IntKind.i64 (↑i : Int) :: (SV.int IntKind.i64 (IntKind.wrap IntKind.i64 ((↑i : Int) + (1 : Int))) :: (rawR u 44 (SV.ptr 2 b 0 :: (SV.ptr 4 b6 3 :: (SV.str x.4 :: (SV.ptr 4 b6 1 :: (SV.int IntKind.i64 x.2 :: (SV.int IntKind.i64 (Int.tmod x.2 (5 : Int)) :: (SV.ptr 4 b6 1 :: (SV.int IntKind.i64 x.2 :: (SV.ptr 4 b6 2 :: (SV.int IntKind.i64 x.3 :: (SV.vec 7 ao_1 (List.length (targL s x.4 (Int.tmod x.2 (5 : Int)) x.2 x.3)) cap_1 :: (SV.vec 6 aw (List.length ws) cw :: (SV.bool true :: (SV.bool false :: (rawR u 410 [] 61))))))))))))))) 352))) 15)) 19))))))))
                  [Ent.mk (Loc.sl ao cap) (SObj.roL 5 encStepT bs (StepT.mk (0 : Int) (0 : Int) (0 : Int) (ByteArray.mk #[]) (@none Addr) 0 0 [])), factsT bs,
                   pkA b trkE s, Ent.mk (Loc.sl am cm) (SObj.vecL (88 : TypeId) 2 encPr m ((0 : Int), ByteArray.mk #[])),
                   Ent.mk (Loc.blk b6)
                    (SObj.cells [SV.int IntKind.i64 x.1, SV.int IntKind.i64 x.2, SV.int IntKind.i64 x.3, SV.str x.4, SV.vec 5 x.ao (List.length x.8) x.7] (84 : TypeId)),
                   Ent.mk (Loc.sl x.ao x.7) (SObj.roL 1 encI1 x.8 (0 : Int)), Ent.mk (Loc.sl aw cw) (SObj.vecL (3 : TypeId) 1 encI1 ws (0 : Int)),
                   Ent.mk (Loc.sl ao_1 cap_1) (SObj.vecL (3 : TypeId) 1 encI1 (targL s x.4 (Int.tmod x.2 (5 : Int)) x.2 x.3) (0 : Int))])) := by kernel_rfl
end Go.Proofs.Ytihajdkipkfiiaa

/- YtihajdkipkfiiaaInt1Run -/
namespace Go.Proofs.Ytihajdkipkfiiaa
set_option linter.unusedVariables false
open Go Go.RowKit
set_option maxHeartbeats 0
set_option maxRecDepth 100000
set_option maxRecDepth 100000

theorem ints_run (K : List Frm → Sy → Prop) (N : List Ent → SV → Prop) (xs : List Int) (ao ao' : Option Addr) (cap cap' : Nat) : (run Try.prog [] false [] K (retP Try.prog Try.f17.results.toList N) 600 [.code (bodyOf Try.f17)] ⟨padTo 26 [.vec 0 ao xs.length cap, .vec 1 ao' xs.length cap'], [⟨.sl ao cap, .vecL 3 1 encI1 xs 0⟩, ⟨.sl ao' cap', .vecL 3 1 encI1 xs 0⟩]⟩) = (
match (↑(List.length xs) : Int) != (↑(List.length xs) : Int) with
| true => N [Ent.mk (Loc.sl ao cap) (SObj.vecL (3 : TypeId) 1 encI1 xs (0 : Int)), Ent.mk (Loc.sl ao' cap') (SObj.vecL (3 : TypeId) 1 encI1 xs (0 : Int))] (SV.bool false)
| false =>
 K (frm [] (bodyOf Try.f17) [1, 1, 0, 1, 0] [])
  (Sy.mk (SV.vec 0 ao (List.length xs) cap :: (SV.vec 1 ao' (List.length xs) cap' :: (SV.raw (Value.tuple #[]) :: (SV.raw (Value.tuple #[]) :: (SV.bool false :: (SV.int IntKind.i64 (0 : Int) :: (SV.vec 0 ao (List.length xs) cap :: (SV.int IntKind.i64 (↑(List.length xs) : Int) :: (SV.vec 1 ao' (List.length xs) cap' :: (SV.int IntKind.i64 (↑(List.length xs) : Int) :: (SV.bool false :: (rawE [] 15))))))))))))
   [Ent.mk (Loc.sl ao cap) (SObj.vecL (3 : TypeId) 1 encI1 xs (0 : Int)), Ent.mk (Loc.sl ao' cap') (SObj.vecL (3 : TypeId) 1 encI1 xs (0 : Int))])) := by kernel_rfl


theorem ints_body (K : List Frm → Sy → Prop) (N : List Ent → SV → Prop) (J : Act → World → Prop) (xs : List Int) (ao ao' : Option Addr) (cap cap' : Nat) (i : Nat) (u : Nat → Value) : (run Try.prog [] false [] K (retP Try.prog Try.f17.results.toList N) 900 (frm [J] (bodyOf Try.f17) [1, 1, 0, 1, 0, 0] []) ⟨mkT u 26 0 [(0, .vec 0 ao xs.length cap), (1, .vec 1 ao' xs.length cap'), (5, .int .i64 (i : Int))], [⟨.sl ao cap, .vecL 3 1 encI1 xs 0⟩, ⟨.sl ao' cap', .vecL 3 1 encI1 xs 0⟩]⟩) = (
match decide ((↑i : Int) < (↑(List.length xs) : Int)) with
| true =>
 (ao = ao ∧ cap = cap ∧ List.length xs = List.length xs ∧ (0 : Int) ≤ (↑i : Int) ∧ (↑i : Int) < (↑(List.length xs) : Int)) ∧
  (Addr.blkD ao = Addr.blkD ao ∧ Addr.offD ao = Addr.offD ao ∧ 1 = 1 ∧ Int.toNat (↑i : Int) < List.length xs) ∧
   (ao' = ao' ∧ cap' = cap' ∧ List.length xs = List.length xs ∧ (0 : Int) ≤ (↑i : Int) ∧ (↑i : Int) < (↑(List.length xs) : Int)) ∧
    (Addr.blkD ao' = Addr.blkD ao' ∧ Addr.offD ao' = Addr.offD ao' ∧ 1 = 1 ∧ Int.toNat (↑i : Int) < List.length xs) ∧
     match List.getD xs (Int.toNat (↑i : Int)) (0 : Int) != List.getD xs (Int.toNat (↑i : Int)) (0 : Int) with
     | true => N [Ent.mk (Loc.sl ao cap) (SObj.vecL (3 : TypeId) 1 encI1 xs (0 : Int)), Ent.mk (Loc.sl ao' cap') (SObj.vecL (3 : TypeId) 1 encI1 xs (0 : Int))] (SV.bool false)
     | false =>
      K (Frm.loop J :: Frm.blk 0 :: frm [] (bodyOf Try.f17) [1, 1, 1] [])
       (Sy.mk (SV.vec 0 ao (List.length xs) cap :: (SV.vec 1 ao' (List.length xs) cap' :: (rawR u 2 (SV.int IntKind.i64 (IntKind.wrap IntKind.i64 ((↑i : Int) + (1 : Int))) :: (rawR u 6 (SV.int IntKind.i64 (↑i : Int) :: (SV.vec 0 ao (List.length xs) cap :: (SV.int IntKind.i64 (↑(List.length xs) : Int) :: (SV.bool true :: (SV.int IntKind.i64 (↑i : Int) :: (SV.int IntKind.i64 (IntKind.wrap IntKind.i64 ((↑i : Int) + (1 : Int))) :: (SV.vec 0 ao (List.length xs) cap :: (SV.int IntKind.i64 (↑i : Int) :: (SV.eptr 0 (Addr.blkD ao) (Addr.offD ao) 1 (Int.toNat (↑i : Int)) 0 :: (SV.int IntKind.i64 (List.getD xs (Int.toNat (↑i : Int)) (0 : Int)) :: (SV.vec 1 ao' (List.length xs) cap' :: (SV.int IntKind.i64 (↑i : Int) :: (SV.eptr 1 (Addr.blkD ao') (Addr.offD ao') 1 (Int.toNat (↑i : Int)) 0 :: (SV.int IntKind.i64 (List.getD xs (Int.toNat (↑i : Int)) (0 : Int)) :: (SV.bool false :: []))))))))))))))) 5)) 3)))
        [Ent.mk (Loc.sl ao cap) (SObj.vecL (3 : TypeId) 1 encI1 xs (0 : Int)), Ent.mk (Loc.sl ao' cap') (SObj.vecL (3 : TypeId) 1 encI1 xs (0 : Int))])
| false => N [Ent.mk (Loc.sl ao cap) (SObj.vecL (3 : TypeId) 1 encI1 xs (0 : Int)), Ent.mk (Loc.sl ao' cap') (SObj.vecL (3 : TypeId) 1 encI1 xs (0 : Int))] (SV.bool true)) := by kernel_rfl
end Go.Proofs.Ytihajdkipkfiiaa

/- YtihajdkipkfiiaaInt -/
/- reveillehelp.Ints. -/
namespace Go.Proofs.Ytihajdkipkfiiaa
open Go Go.RowKit
set_option linter.unusedVariables false
set_option linter.unusedSimpArgs false
set_option linter.unnecessarySimpa false
set_option maxHeartbeats 0
theorem hmInt : Try.prog.follows .mixedOrders = true := by kernel_rfl
theorem setN_selfInt {α : Type 1} {l : Nat} {v : α} : ∀ {h : List α}, nth h l = some v → setN h l v = h := by
  induction l with
  | zero => intro h hl; cases h <;> simp [nth, setN] at hl ⊢; exact hl.symm
  | succ l ih => intro h hl; cases h <;> simp [nth, setN] at hl ⊢; exact ih hl
theorem ints_ok : CtrOk Try.prog 17 intsC := by
  intro args hs N h
  unfold intsC at h
  split at h
  case h_2 => exact h.elim
  rename_i l ao n cap l' ao' n' cap'
  obtain ⟨xs, h1, h2, ⟨hne, rfl, rfl, hx⟩, h⟩ := h
  refine Spec.at (hp := [⟨.sl ao cap, .vecL 3 1 encI1 xs 0⟩, ⟨.sl ao' cap', .vecL 3 1 encI1 xs 0⟩]) (args' := [.vec 0 ao xs.length cap, .vec 1 ao' xs.length cap']) (Post' := fun h' r => h' = [⟨.sl ao cap, .vecL 3 1 encI1 xs 0⟩, ⟨.sl ao' cap', .vecL 3 1 encI1 xs 0⟩] ∧ r = .bool true) [l, l'] (by
    have : l ≠ l' := fun e => by
      subst e
      simp at hne
    simpa [distinct] using this) (by simp [pickE, h1, h2]) ?_ rfl ?_
  · refine Spec.up ?_
    refine Spec.of_G 26 Try.func17 (c := bodyOf Try.f17) (by kernel_rfl) (by kernel_rfl) (Nat.le_of_ble_eq_true rfl) fun W F => ?_
    refine G_run (kc := false) (ss := []) (Cs := []) trivial hmInt 600 ?_
    rw [ints_run]
    have : ((xs.length : Int) != (xs.length : Int)) = false := by simp
    rw [this]
    refine G_loopAt (ι := Nat) [] (bodyOf Try.f17) [1, 1, 0, 1, 0] 26 (fun i => [(0, .vec 0 ao xs.length cap), (1, .vec 1 ao' xs.length cap'), (5, .int .i64 (i : Int))]) (fun i => [⟨.sl ao cap, .vecL 3 1 encI1 xs 0⟩, ⟨.sl ao' cap', .vecL 3 1 encI1 xs 0⟩]) (fun i => i ≤ xs.length) (fun i => xs.length - i) 0 (by kernel_rfl) (fun J => by kernel_rfl) (Nat.zero_le _) rfl ⟨rfl, rfl, rfl, trivial⟩ (fun w hw => hw) ?_
    intro i hi u
    try dsimp only at hi ⊢
    simp only [List.nil_append, List.cons_append]
    refine G_run (kc := false) (ss := []) (Cs := []) trivial hmInt 900 ?_
    rw [ints_body]
    cases hlt : decide ((i : Int) < (xs.length : Int)) with
    | false => exact ⟨_, .bool true, fun W F w hr => hr, rfl, rfl, rfl⟩
    | true =>
      simp only [decide_eq_true_eq] at hlt
      have w1 : IntKind.wrap .i64 ((i : Int) + 1) = ((i + 1 : Nat) : Int) := IntWalk.i64_in _ (by omega)
      have e : (xs.getD (Int.toNat (i : Int)) 0 != xs.getD (Int.toNat (i : Int)) 0) = false := by simp
      refine ⟨⟨rfl, rfl, rfl, by omega, by omega⟩, ⟨rfl, rfl, rfl, by omega⟩, ⟨rfl, rfl, rfl, by omega, by omega⟩, ⟨rfl, rfl, rfl, by omega⟩, ?_⟩
      rw [e]
      exact G_back (i + 1) (by omega) (by omega) rfl ⟨rfl, rfl, congrArg (Value.int .i64) w1, trivial⟩ (fun w hw => hw)
  · rintro h' r ⟨rfl, rfl⟩
    refine ⟨Nat.le_refl _, _, rfl, ?_⟩
    simpa [putBack, appE_eq, setN_selfInt h1, setN_selfInt h2] using h
end Go.Proofs.Ytihajdkipkfiiaa

/- YtihajdkipkfiiaaTg1Run -/
namespace Go.Proofs.Ytihajdkipkfiiaa
set_option linter.unusedVariables false
open Go Go.RowKit
set_option maxHeartbeats 0
set_option maxRecDepth 100000
set_option maxRecDepth 100000

theorem ixI_start (K : List Frm → Sy → Prop) (N : List Ent → SV → Prop) (xs : List Int) (ao : Option Addr) (cap : Nat) (v : Int) : (run Try.prog [] false [] K (retP Try.prog Try.f103.results.toList N) 600 [.code (bodyOf Try.f103)] ⟨padTo 19 [.vec 0 ao xs.length cap, .int .i64 v], [⟨.sl ao cap, .vecL 3 1 encI1 xs 0⟩]⟩) = (
K (frm [] (bodyOf Try.f103) [1, 0, 1, 0] [])
 (Sy.mk (SV.vec 0 ao (List.length xs) cap :: (SV.int IntKind.i64 v :: (SV.raw (Value.tuple #[]) :: (SV.raw (Value.tuple #[]) :: (SV.int IntKind.i64 (0 : Int) :: (SV.raw (Value.tuple #[]) :: (SV.vec 0 ao (List.length xs) cap :: (SV.int IntKind.i64 (↑(List.length xs) : Int) :: (SV.int IntKind.i64 (0 : Int) :: (rawE [] 10))))))))))
  [Ent.mk (Loc.sl ao cap) (SObj.vecL (3 : TypeId) 1 encI1 xs (0 : Int))])) := by kernel_rfl


theorem ixI_nil (K : List Frm → Sy → Prop) (N : List Ent → SV → Prop) (v : Int) : (run Try.prog [] false [100000, 100001, 100002, 100003] K (retP Try.prog Try.f103.results.toList N) 600 [.code (bodyOf Try.f103)] ⟨padTo 19 [.raw (.slice none 0 0), .int .i64 v], []⟩) = (
N [] (SV.int IntKind.i64 (-1 : Int))) := by kernel_rfl


theorem ixI_body (K : List Frm → Sy → Prop) (N : List Ent → SV → Prop) (J : Act → World → Prop) (xs : List Int) (ao : Option Addr) (cap : Nat) (v : Int) (i : Nat) (u : Nat → Value) : (run Try.prog [] false [] K (retP Try.prog Try.f103.results.toList N) 900 (frm [J] (bodyOf Try.f103) [1, 0, 1, 0, 0] []) ⟨mkT u 19 0 [(0, .vec 0 ao xs.length cap), (1, .int .i64 v), (7, .int .i64 (xs.length : Int)), (8, .int .i64 (i : Int))], [⟨.sl ao cap, .vecL 3 1 encI1 xs 0⟩]⟩) = (
match decide ((↑i : Int) < (↑(List.length xs) : Int)) with
| true =>
 (ao = ao ∧ cap = cap ∧ List.length xs = List.length xs ∧ (0 : Int) ≤ (↑i : Int) ∧ (↑i : Int) < (↑(List.length xs) : Int)) ∧
  (Addr.blkD ao = Addr.blkD ao ∧ Addr.offD ao = Addr.offD ao ∧ 1 = 1 ∧ Int.toNat (↑i : Int) < List.length xs) ∧
   match v == List.getD xs (Int.toNat (↑i : Int)) (0 : Int) with
   | true => N [Ent.mk (Loc.sl ao cap) (SObj.vecL (3 : TypeId) 1 encI1 xs (0 : Int))] (SV.int IntKind.i64 (↑i : Int))
   | false =>
    K (Frm.loop J :: Frm.blk 0 :: frm [] (bodyOf Try.f103) [1, 1] [])
     (Sy.mk (SV.vec 0 ao (List.length xs) cap :: (SV.int IntKind.i64 v :: (rawR u 2 (SV.int IntKind.i64 (↑i : Int) :: (SV.raw (u 6) :: (SV.int IntKind.i64 (↑(List.length xs) : Int) :: (SV.int IntKind.i64 (IntKind.wrap IntKind.i64 ((↑i : Int) + (1 : Int))) :: (SV.bool true :: (SV.int IntKind.i64 (↑i : Int) :: (SV.int IntKind.i64 v :: (SV.vec 0 ao (List.length xs) cap :: (SV.int IntKind.i64 (↑i : Int) :: (SV.eptr 0 (Addr.blkD ao) (Addr.offD ao) 1 (Int.toNat (↑i : Int)) 0 :: (SV.int IntKind.i64 (List.getD xs (Int.toNat (↑i : Int)) (0 : Int)) :: (SV.bool false :: (SV.raw (u 17) :: (SV.int IntKind.i64 (IntKind.wrap IntKind.i64 ((↑i : Int) + (1 : Int))) :: [])))))))))))))) 3)))
      [Ent.mk (Loc.sl ao cap) (SObj.vecL (3 : TypeId) 1 encI1 xs (0 : Int))])
| false => N [Ent.mk (Loc.sl ao cap) (SObj.vecL (3 : TypeId) 1 encI1 xs (0 : Int))] (SV.int IntKind.i64 (-1 : Int))) := by kernel_rfl


theorem cnI_run (K : List Frm → Sy → Prop) (N : List Ent → SV → Prop) (xs : List Int) (ao : Option Addr) (cap : Nat) (v : Int) : (run Try.prog cnT false [] K (retP Try.prog Try.f83.results.toList N) 600 [.code (bodyOf Try.f83)] ⟨padTo 9 [.vec 0 ao xs.length cap, .int .i64 v], [⟨.sl ao cap, .vecL 3 1 encI1 xs 0⟩]⟩) = (
true = true ∧
 ∃ (xs_1 : List Int),
  some (Ent.mk (Loc.sl ao cap) (SObj.vecL (3 : TypeId) 1 encI1 xs (0 : Int))) = some (Ent.mk (Loc.sl ao cap) (SObj.vecL (3 : TypeId) 1 encI1 xs_1 (0 : Int))) ∧
   (List.length xs = List.length xs_1 ∧ List.length xs_1 ≤ 1000000) ∧
    N [Ent.mk (Loc.sl ao cap) (SObj.vecL (3 : TypeId) 1 encI1 xs (0 : Int))] (SV.bool (decide (fIdx (fun (x : Int) ↦ v == x) xs_1 0 ≥ (0 : Int))))) := by kernel_rfl


theorem cnI_nil (K : List Frm → Sy → Prop) (N : List Ent → SV → Prop) (v : Int) : (run Try.prog cnT false [] K (retP Try.prog Try.f83.results.toList N) 600 [.code (bodyOf Try.f83)] ⟨padTo 9 [.raw (.slice none 0 0), .int .i64 v], []⟩) = (
true = true ∧ N [] (SV.bool false)) := by kernel_rfl


theorem tg_run (K : List Frm → Sy → Prop) (N : List Ent → SV → Prop) (s : Trk) (b : Nat) (n : ByteArray) (mode a c : Int) : (run Try.prog tgT true [100006, 100007] K (retP Try.prog Try.f36.results.toList N) 1500 [.code (bodyOf Try.f36)] ⟨padTo 47 [.ptr 0 b 0, .str n, .int .i64 mode, .int .i64 a, .int .i64 c], [pkA b trkE s]⟩) = (
match mode == (1 : Int) with
| true =>
 true = true ∧
  b = b ∧
   ∃ (h : Trk = Trk),
    AdtIs (fun (s : Trk) (b : Nat) ↦ packs (trkE s b)) trkE ∧
     pidsOk (cast h s) n ∧
      ∀ (ao : Option Addr) (cap bx : Nat),
       true = true ∧
        true = true ∧
         (99 : FuncId) = (99 : FuncId) ∧
          ∃ (xs : List Int),
           ∃ (lv : Nat),
            ∃ (ao_1 : Option Addr),
             ∃ (cap_1 : Nat),
              some (Ent.mk (Loc.blk bx) (SObj.cells [SV.vec 1 ao (List.length (pidsL s n)) cap] (32 : TypeId))) =
               some (Ent.mk (Loc.blk bx) (SObj.cells [SV.vec lv ao_1 (List.length xs) cap_1] (32 : TypeId))) ∧
               nth
                [pkA b trkE s, Ent.mk (Loc.sl ao cap) (SObj.vecL (3 : TypeId) 1 encI1 (pidsL s n) (0 : Int)),
                 Ent.mk (Loc.blk bx) (SObj.cells [SV.vec 1 ao (List.length (pidsL s n)) cap] (32 : TypeId))]
                lv =
                some (Ent.mk (Loc.sl ao_1 cap_1) (SObj.vecL (3 : TypeId) 1 encI1 xs (0 : Int))) ∧
                (Nat.beq 2 lv = false ∧ List.length xs ≤ 1000000) ∧
                 ∀ (ao' : Option Addr) (cap' : Nat),
                  N
                   [pkA b trkE s, Ent.mk (Loc.sl ao cap) (SObj.vecL (3 : TypeId) 1 encI1 (pidsL s n) (0 : Int)),
                    Ent.mk (Loc.blk bx) (SObj.cells [SV.vec 1 ao (List.length (pidsL s n)) cap] (32 : TypeId)),
                    Ent.mk (Loc.sl ao' cap') (SObj.vecL (3 : TypeId) 1 encI1 xs (0 : Int))]
                   (SV.vec 3 ao' (List.length xs) cap')
| false =>
 match mode == (2 : Int) with
 | true =>
  (true = true ∧ true = true) ∧
   ((0 : Int) ≤ (0 : Int) ∧ (0 : Int) < (↑2 : Int)) ∧
    match decide (mnI a c ≥ (2 : Int)) with
    | true =>
     true = true ∧
      (true = true ∧ 1 = 1 ∧ 0 < 1 ∧ 1 ≤ 16777216) ∧
       ∀ (b_1 : Nat),
        (some (Addr.mk b_1 0 (@none Nat)) = some (Addr.mk b_1 0 (@none Nat)) ∧
         1 = 1 ∧ 0 < 1 ∧ true = true ∧ 8 ≤ 140737488355328 ∧ 1 ≤ 9223372036854775807) ∧
         ∀ (ao2 : Option Addr) (cap2 : Nat),
          1 ≤ cap2 →
           ((0 : Int) ≤ (1 : Int) ∧ (1 : Int) < (↑2 : Int)) ∧
            match decide (mxI a c ≥ (2 : Int)) with
            | true =>
             true = true ∧
              ∃ (xs : List Int),
               ∃ (e : Ent),
                some (Ent.mk (Loc.sl ao2 cap2) (SObj.vecV 3 1 1 [SV.int IntKind.i64 (mnI a c)])) = some e ∧
                 (e = Ent.mk (Loc.sl ao2 cap2) (SObj.vecL (3 : TypeId) 1 encI1 xs (0 : Int)) ∨
                  e = Ent.mk (Loc.sl ao2 cap2) (SObj.vecV (3 : TypeId) 1 1 (List.map (fun (x : Int) ↦ SV.int IntKind.i64 x) xs))) ∧
                  (1 = List.length xs ∧ List.length xs ≤ 1000000) ∧
                   match !List.contains xs (mxI a c) with
                   | true =>
                    (true = true ∧ 1 = 1 ∧ 0 < 1 ∧ 1 ≤ 16777216) ∧
                     ∀ (b_2 : Nat),
                      (ao2 = ao2 ∧
                       cap2 = cap2 ∧
                        1 = 1 ∧
                         some (Addr.mk b_2 0 (@none Nat)) = some (Addr.mk b_2 0 (@none Nat)) ∧
                          3 = 3 ∧
                           1 = 1 ∧
                            1 = 1 ∧
                             0 < 1 ∧ true = true ∧ 16 ≤ 140737488355328 ∧ 2 ≤ 9223372036854775807) ∧
                       ∀ (ao2 : Option Addr) (cap2 : Nat),
                        1 + 1 ≤ cap2 →
                         N
                          [pkA b trkE s, Ent.mk (Loc.blk b_1) (SObj.cells [SV.int IntKind.i64 (mnI a c)] 3),
                           Ent.mk (Loc.sl ao2 cap2) (SObj.vecV 3 1 2 [SV.int IntKind.i64 (mnI a c), SV.int IntKind.i64 (mxI a c)]),
                           Ent.mk (Loc.blk b_2) (SObj.cells [SV.int IntKind.i64 (mxI a c)] 3)]
                          (SV.vec 2 ao2 2 cap2)
                   | false =>
                    N
                     [pkA b trkE s, Ent.mk (Loc.blk b_1) (SObj.cells [SV.int IntKind.i64 (mnI a c)] 3),
                      Ent.mk (Loc.sl ao2 cap2) (SObj.vecV 3 1 1 [SV.int IntKind.i64 (mnI a c)])]
                     (SV.vec 2 ao2 1 cap2)
            | false =>
             N
              [pkA b trkE s, Ent.mk (Loc.blk b_1) (SObj.cells [SV.int IntKind.i64 (mnI a c)] 3),
               Ent.mk (Loc.sl ao2 cap2) (SObj.vecV 3 1 1 [SV.int IntKind.i64 (mnI a c)])]
              (SV.vec 2 ao2 1 cap2)
    | false =>
     ((0 : Int) ≤ (1 : Int) ∧ (1 : Int) < (↑2 : Int)) ∧
      match decide (mxI a c ≥ (2 : Int)) with
      | true =>
       true = true ∧
        (true = true ∧ 1 = 1 ∧ 0 < 1 ∧ 1 ≤ 16777216) ∧
         ∀ (b_1 : Nat),
          (some (Addr.mk b_1 0 (@none Nat)) = some (Addr.mk b_1 0 (@none Nat)) ∧
           1 = 1 ∧ 0 < 1 ∧ true = true ∧ 8 ≤ 140737488355328 ∧ 1 ≤ 9223372036854775807) ∧
           ∀ (ao2 : Option Addr) (cap2 : Nat),
            1 ≤ cap2 →
             N
              [pkA b trkE s, Ent.mk (Loc.blk b_1) (SObj.cells [SV.int IntKind.i64 (mxI a c)] 3),
               Ent.mk (Loc.sl ao2 cap2) (SObj.vecV 3 1 1 [SV.int IntKind.i64 (mxI a c)])]
              (SV.vec 2 ao2 1 cap2)
      | false => N [pkA b trkE s] (SV.raw (Value.slice (@none Addr) 0 0))
 | false => N [pkA b trkE s] (SV.raw (Value.slice (@none Addr) 0 0))) := by kernel_rfl
end Go.Proofs.Ytihajdkipkfiiaa

/- YtihajdkipkfiiaaTg -/
/- Targets. -/
namespace Go.Proofs.Ytihajdkipkfiiaa
open Go Go.RowKit
set_option linter.unusedVariables false
set_option linter.unusedSimpArgs false
set_option linter.unnecessarySimpa false
set_option maxHeartbeats 0

theorem ixI_spec (xs : List Int) (ao : Option Addr) (cap : Nat) (v : Int) (hm : xs.length ≤ 1000000) : Spec Try.prog 103 [⟨.sl ao cap, .vecL 3 1 encI1 xs 0⟩] [.vec 0 ao xs.length cap, .int .i64 v] fun h' r => h' = [⟨.sl ao cap, .vecL 3 1 encI1 xs 0⟩] ∧ r = .int .i64 (fIdx (fun x : Int => v == x) xs 0) := by
  refine Spec.up ?_
  refine Spec.of_G 19 Try.func103 (c := bodyOf Try.f103) (by kernel_rfl) (by kernel_rfl) (Nat.le_of_ble_eq_true rfl) fun W F => ?_
  refine G_run (kc := false) (ss := []) (Cs := []) trivial hmT 600 ?_
  rw [ixI_start]
  refine G_loopAt (ι := Nat) [] (bodyOf Try.f103) [1, 0, 1, 0] 19 (fun i => [(0, .vec 0 ao xs.length cap), (1, .int .i64 v), (7, .int .i64 (xs.length : Int)), (8, .int .i64 (i : Int))]) (fun _ => [⟨.sl ao cap, .vecL 3 1 encI1 xs 0⟩]) (fun i => i ≤ xs.length ∧ fIdx (fun x : Int => v == x) xs 0 = fIdx (fun x : Int => v == x) (xs.drop i) i) (fun i => xs.length - i) 0 (by kernel_rfl) (fun J => by kernel_rfl) ⟨Nat.zero_le _, rfl⟩ rfl ⟨rfl, rfl, rfl, rfl, trivial⟩ (fun w hw => hw) ?_
  rintro i ⟨hi, hv⟩ u
  try dsimp only at hi hv ⊢
  simp only [List.nil_append, List.cons_append]
  refine G_run (kc := false) (ss := []) (Cs := []) trivial hmT 900 ?_
  rw [ixI_body]
  cases hlt : decide ((i : Int) < (xs.length : Int)) with
  | false =>
    simp only [decide_eq_false_iff_not] at hlt
    rw [List.drop_of_length_le (by omega)] at hv
    exact ⟨_, .int .i64 (-1), fun W F w hr => hr, rfl, rfl, by rw [hv]; rfl⟩
  | true =>
    simp only [decide_eq_true_eq] at hlt
    rw [fIdx_drop _ (0 : Int) _ _ (by omega)] at hv
    have w1 : IntKind.wrap .i64 ((i : Int) + 1) = ((i + 1 : Nat) : Int) := IntWalk.i64_in _ (by omega)
    rw [Int.toNat_natCast]
    refine ⟨⟨rfl, rfl, rfl, by omega, by omega⟩, ⟨rfl, rfl, rfl, by omega⟩, ?_⟩
    cases hc : v == xs.getD i 0 with
    | true =>
      rw [hc] at hv
      exact ⟨_, .int .i64 (i : Int), fun W F w hr => hr, rfl, rfl, by rw [hv]⟩
    | false =>
      rw [hc] at hv
      exact G_back (i + 1) ⟨by omega, hv⟩ (by omega) rfl ⟨rfl, rfl, rfl, congrArg (Value.int .i64) w1, trivial⟩ (fun w hw => hw)
theorem idxI_ok : CtrOk Try.prog 103 idxIC := by
  intro args hs N h
  unfold idxIC at h
  split at h
  · rename_i l ao n cap v
    obtain ⟨xs, hl, ⟨rfl, hm⟩, h⟩ := h
    refine Spec.at (hp := [⟨.sl ao cap, .vecL 3 1 encI1 xs 0⟩]) (args' := [.vec 0 ao xs.length cap, .int .i64 v]) (Post' := fun h' r => h' = [⟨.sl ao cap, .vecL 3 1 encI1 xs 0⟩] ∧ r = .int .i64 (fIdx (fun x : Int => v == x) xs 0)) [l] (by simp [distinct]) (by
      have hl' : nth hs l = some ⟨.sl ao cap, .vecL 3 1 encI1 xs 0⟩ := hl
      simp [pickE, hl']) (ixI_spec xs ao cap v hm) rfl ?_
    rintro h' r ⟨rfl, rfl⟩
    refine ⟨Nat.le_refl _, _, rfl, ?_⟩
    have e0 : setN hs l ⟨.sl ao cap, .vecL 3 1 encI1 xs 0⟩ = hs := setN_selfT hl
    simpa [putBack, appE_eq, e0] using h
  · rename_i v
    refine Spec.lift (Φ := fun r => r = .int .i64 (-1)) ?_ (fun r hr => by rw [hr]; exact h)
    refine Spec.of_G 19 Try.func103 (c := bodyOf Try.f103) (by kernel_rfl) (by kernel_rfl) (Nat.le_of_ble_eq_true rfl) fun W F => ?_
    refine G_run (kc := false) (ss := [100000, 100001, 100002, 100003]) (Cs := []) trivial hmT 600 ?_
    rw [ixI_nil]
  · exact h.elim
theorem fIdx_contains (v : Int) : ∀ (xs : List Int) (i : Nat), decide (fIdx (fun x : Int => v == x) xs i ≥ 0) = xs.contains v
  | [], i => rfl
  | x :: xs, i => by
    rw [List.contains_cons]
    cases hq : v == x with
    | true =>
      have e : fIdx (fun x : Int => v == x) (x :: xs) i = (i : Int) := by simp only [fIdx, hq]
      rw [e]; simp
    | false =>
      have e : fIdx (fun x : Int => v == x) (x :: xs) i = fIdx (fun x : Int => v == x) xs (i + 1) := by simp only [fIdx, hq]
      rw [e, fIdx_contains v xs (i + 1)]; simp
/-- A slice of elements of a type, as1 the code made it. -/
theorem Rep.vecTo {W w : World} {F : List Ch} {h : List Ent} {l cap sz n : Nat} {ao : Option Addr} {cs : List SV} {T : TypeId} {α : Type} {enc : α → List SV} {xs : List α} {d : α} (hl : nth h l = some ⟨.sl ao cap, .vecL T sz enc xs d⟩) (hn : n = xs.length) (hd : denL cs = flatV enc xs)
    (hr : Rep W F h w) : Rep W F (setN h l ⟨.sl ao cap, .vecV T sz n cs⟩) w := by
  obtain ⟨c, L, hc, hH, hput⟩ := hr.get hl
  subst hn
  refine hput ⟨.sl ao cap, .vecV T sz xs.length cs⟩ c w ?_ hH
  obtain ⟨hc, _⟩ := hc
  rw [← hd] at hc; exact hc
theorem flat_I1 : ∀ xs : List Int, denL (xs.map fun x => SV.int .i64 x) = flatV encI1 xs
  | [] => rfl
  | x :: xs => by
    have := flat_I1 xs
    unfold flatV at this ⊢
    simp only [List.map_cons, List.flatMap_cons, ← this]
    rfl
theorem contI_spec (xs : List Int) (ao : Option Addr) (cap : Nat) (v : Int) (hm : xs.length ≤ 1000000) : Spec Try.prog 83 [⟨.sl ao cap, .vecL 3 1 encI1 xs 0⟩] [.vec 0 ao xs.length cap, .int .i64 v] fun h' r => h' = [⟨.sl ao cap, .vecL 3 1 encI1 xs 0⟩] ∧ r = .bool (xs.contains v) := by
  refine Spec.up ?_
  refine Spec.of_G 9 Try.func83 (c := bodyOf Try.f83) (by kernel_rfl) (by kernel_rfl) (Nat.le_of_ble_eq_true rfl) fun W F => ?_
  refine G_run (kc := false) (ss := []) (Cs := cnT) ⟨idxI_ok, trivial⟩ hmT 600 ?_
  rw [cnI_run]
  exact ⟨rfl, xs, rfl, ⟨rfl, hm⟩, [⟨.sl ao cap, .vecL 3 1 encI1 xs 0⟩], .bool (xs.contains v), fun W F w hr => hr, by rw [fIdx_contains], rfl, rfl⟩
theorem contI_ok : CtrOk Try.prog 83 contIC := by
  intro args hs N h
  unfold contIC at h
  split at h
  · rename_i l ao n cap v
    obtain ⟨xs, e, hl, he, ⟨rfl, hm⟩, h⟩ := h
    refine Spec.at (hp := [e]) (args' := [.vec 0 ao xs.length cap, .int .i64 v]) (Post' := fun h' r => h' = [e] ∧ r = .bool (xs.contains v)) [l] (by simp [distinct]) (by simp [pickE, hl]) ?_ rfl ?_
    · rcases he with rfl | rfl
      · exact contI_spec xs ao cap v hm
      · refine Spec.pre (hs' := [⟨.sl ao cap, .vecL 3 1 encI1 xs 0⟩]) (args' := [.vec 0 ao xs.length cap, .int .i64 v]) (fun W F w hr => Rep.vecOf (l := 0) encI1 xs 0 rfl rfl (flat_I1 xs) (fun _ => rfl) hr) rfl ?_
        refine Spec.weaken (contI_spec xs ao cap v hm) ?_
        rintro h' r ⟨rfl, rfl⟩
        exact ⟨_, _, fun W F w hr => Rep.vecTo (l := 0) (n := xs.length) (cs := xs.map fun x => .int .i64 x) rfl rfl (flat_I1 xs) hr, rfl, rfl, rfl⟩
    rintro h' r ⟨rfl, rfl⟩
    refine ⟨Nat.le_refl _, _, rfl, ?_⟩
    have e0 : setN hs l e = hs := setN_selfT hl
    simpa [putBack, appE_eq, e0] using h
  · rename_i v
    refine Spec.lift (Φ := fun r => r = .bool false) ?_ (fun r hr => by rw [hr]; exact h)
    refine Spec.of_G 9 Try.func83 (c := bodyOf Try.f83) (by kernel_rfl) (by kernel_rfl) (Nat.le_of_ble_eq_true rfl) fun W F => ?_
    refine G_run (kc := false) (ss := []) (Cs := cnT) ⟨idxI_ok, trivial⟩ hmT 600 ?_
    rw [cnI_nil]
    exact ⟨rfl, rfl⟩
  · exact h.elim
theorem tgT_ok : AllOk Try.prog tgT := ⟨tPids_ok, inl_ok ⟨appSeq_ok, trivial⟩ hmT Try.func82 (by kernel_rfl), contI_ok, trivial⟩
theorem tg_spec (s : Trk) (b : Nat) (n : ByteArray) (mode a c : Int) (hp : pidsOk s n) (hl : (pidsL s n).length ≤ 1000000) : Spec Try.prog 36 [pkA b trkE s] [.ptr 0 b 0, .str n, .int .i64 mode, .int .i64 a, .int .i64 c] fun h' r => ∃ ao cap, h' = [pkA b trkE s, ⟨.sl ao cap, .vecL 3 1 encI1 (targL s n mode a c) 0⟩] ∧ r = .vec 1 ao (targL s n mode a c).length cap := by
  refine Spec.up ?_
  refine Spec.of_G 47 Try.func36 (c := bodyOf Try.f36) (by kernel_rfl) (by kernel_rfl) (Nat.le_of_ble_eq_true rfl) fun W F => ?_
  refine G_run (kc := true) (ss := [100006, 100007]) (Cs := tgT) tgT_ok hmT 1500 ?_
  rw [tg_run]
  unfold targL
  cases hmd : mode == 1 with
  | true =>
    refine ⟨rfl, rfl, rfl, HEq.rfl, hp, fun ao cap bx => ⟨rfl, rfl, rfl, pidsL s n, 1, ao, cap, rfl, rfl, ⟨rfl, hl⟩, fun ao' cap' => ?_⟩⟩
    refine ⟨_, .vec 1 ao' (pidsL s n).length cap', fun W F w hr => ?_, rfl, ao', cap', rfl, rfl⟩
    exact Rep.pick (π := [0, 3]) (by decide) rfl hr
  | false =>
    have nil : up (fun h' r => ∃ ao cap, h' = [pkA b trkE s, ⟨.sl ao cap, .vecL 3 1 encI1 [] 0⟩] ∧ r = .vec 1 ao 0 cap) [pkA b trkE s] (.raw (.slice none 0 0)) :=
      ⟨[pkA b trkE s, ⟨.sl none 0, .vecL 3 1 encI1 [] 0⟩], .vec 1 none 0 0, fun W F w hr => Rep.nilvec 3 (sz := 1) (enc := encI1) 0 (fun _ => rfl) hr, rfl, none, 0, rfl, rfl⟩
    cases hm2 : mode == 2 with
    | false => exact nil
    | true =>
      have one : ∀ (x : Int) (e : Ent) (ao2 : Option Addr) (cap2 : Nat), up (fun h' r => ∃ ao cap, h' = [pkA b trkE s, ⟨.sl ao cap, .vecL 3 1 encI1 [x] 0⟩] ∧ r = .vec 1 ao 1 cap) [pkA b trkE s, e, ⟨.sl ao2 cap2, .vecV 3 1 1 [.int .i64 x]⟩] (.vec 2 ao2 1 cap2) := fun x e ao2 cap2 => by
        refine ⟨_, .vec 1 ao2 1 cap2, fun W F w hr => ?_, rfl, ao2, cap2, rfl, rfl⟩
        have g1 := Rep.vecOf (l := 2) encI1 [x] 0 rfl rfl rfl (fun _ => rfl) hr
        exact Rep.pick (π := [0, 2]) (by decide) rfl g1
      have two : ∀ (x y : Int) (e e2 : Ent) (ao2 : Option Addr) (cap2 : Nat), up (fun h' r => ∃ ao cap, h' = [pkA b trkE s, ⟨.sl ao cap, .vecL 3 1 encI1 [x, y] 0⟩] ∧ r = .vec 1 ao 2 cap) [pkA b trkE s, e, ⟨.sl ao2 cap2, .vecV 3 1 2 [.int .i64 x, .int .i64 y]⟩, e2] (.vec 2 ao2 2 cap2) := fun x y e e2 ao2 cap2 => by
        refine ⟨_, .vec 1 ao2 2 cap2, fun W F w hr => ?_, rfl, ao2, cap2, rfl, rfl⟩
        have g1 := Rep.vecOf (l := 2) encI1 [x, y] 0 rfl rfl rfl (fun _ => rfl) hr
        exact Rep.pick (π := [0, 2]) (by decide) rfl g1
      unfold mainL
      have hcn : ([mnI a c] : List Int).contains (mxI a c) = (mnI a c == mxI a c) := by
        rw [List.contains_cons, List.contains_nil, Bool.or_false]
        exact Bool.beq_comm
      refine ⟨⟨rfl, rfl⟩, ⟨by decide, by decide⟩, ?_⟩
      cases h1 : decide (mnI a c ≥ 2) with
      | true =>
        cases h2 : decide (mxI a c ≥ 2) with
        | false =>
          repeat' first
            | exact rfl
            | exact one _ _ _ _
            | apply And.intro
            | (refine fun _ => ?_)
            | decide
            | fail
        | true =>
          cases h3 : mnI a c == mxI a c with
          | true =>
            repeat' first
              | exact rfl
              | (refine ⟨[mnI a c], _, rfl, .inr rfl, ⟨rfl, Nat.le_of_ble_eq_true rfl⟩, ?_⟩; simp only [hcn, h3, Bool.not_true, Bool.not_false])
              | exact one _ _ _ _
              | apply And.intro
              | (refine fun _ => ?_)
              | decide
              | fail
          | false =>
            repeat' first
              | exact rfl
              | (refine ⟨[mnI a c], _, rfl, .inr rfl, ⟨rfl, Nat.le_of_ble_eq_true rfl⟩, ?_⟩; simp only [hcn, h3, Bool.not_true, Bool.not_false])
              | exact two _ _ _ _ _ _
              | apply And.intro
              | (refine fun _ => ?_)
              | decide
              | fail
      | false =>
        cases h2 : decide (mxI a c ≥ 2) with
        | false =>
          repeat' first
            | exact rfl
            | exact nil
            | apply And.intro
            | decide
            | fail
        | true =>
          repeat' first
            | exact rfl
            | exact one _ _ _ _
            | apply And.intro
            | (refine fun _ => ?_)
            | decide
            | fail
theorem targ_ok : CtrOk Try.prog 36 targC := by
  intro args hs N h
  unfold targC at h
  split at h
  case h_2 => exact h.elim
  rename_i l b unit mode main control
  split at h
  case h_2 => exact h.elim
  rename_i b' σ' p s hl
  obtain ⟨rfl, rfl, hp, ⟨hpo, hlen⟩, h⟩ := h
  obtain rfl := eq_of_heq hp
  refine Spec.at (hp := [pkA b' trkE s]) (args' := [.ptr 0 b' 0, .str unit, .int .i64 mode, .int .i64 main, .int .i64 control]) (Post' := fun h' r => ∃ ao cap, h' = [pkA b' trkE s, ⟨.sl ao cap, .vecL 3 1 encI1 (targL s unit mode main control) 0⟩] ∧ r = .vec 1 ao (targL s unit mode main control).length cap) [l] (by simp [distinct]) (by
    have hl' : nth hs l = some (pkA b' trkE s) := hl
    simp [pickE, hl']) (tg_spec s b' unit mode main control hpo hlen) rfl ?_
  rintro h' r ⟨ao, cap, rfl, rfl⟩
  refine ⟨Nat.le_of_ble_eq_true rfl, .vec (lenN hs) ao (targL s unit mode main control).length cap, rfl, ?_⟩
  have e0 : setN hs l (pkA b' trkE s) = hs := setN_selfT hl
  simpa [putBack, appE_eq, snoc_eq, e0] using h ao cap
end Go.Proofs.Ytihajdkipkfiiaa

/- YtihajdkipkfiiaaSy1Run -/
namespace Go.Proofs.Ytihajdkipkfiiaa
set_option linter.unusedVariables false
open Go Go.RowKit
set_option maxHeartbeats 0
set_option maxRecDepth 100000
set_option linter.unusedVariables false
set_option maxRecDepth 100000

theorem sy_start (K : List Frm → Sy → Prop) (X : Code → Sy → Prop) (E : Sy → Prop) (s : Trk) (b : Nat) (u : ByteArray) (ps : List Int) (ao : Option Addr) (cap : Nat) : (runR Try.prog [(34, pidsC)] (noY) true [] K X E 300 [.code (bodyOf Try.f53)] ⟨padTo 55 [.ptr 0 b 0, .str u, .vec 1 ao ps.length cap], [pkA b trkE s, ⟨.sl ao cap, .vecL 3 1 encI1 ps 0⟩]⟩) = (
true = true ∧
 ∀ (b_1 : Nat),
  true = true ∧
   ∀ (b_2 : Nat),
    match sEq u (ByteArray.mk #[]) with
    | true =>
     X Code.ret
      (Sy.mk (SV.ptr 0 b 0 :: (SV.str u :: (SV.vec 1 ao (List.length ps) cap :: (SV.ptr 2 b_1 0 :: (SV.raw (Value.tuple #[]) :: (SV.ptr 3 b_2 0 :: (SV.int IntKind.i64 (0 : Int) :: (SV.int IntKind.i64 (0 : Int) :: (rawE (SV.str u :: (SV.bool true :: (rawE [] 40))) 5)))))))))
       [pkA b trkE s, Ent.mk (Loc.sl ao cap) (SObj.vecL (3 : TypeId) 1 encI1 ps (0 : Int)), Ent.mk (Loc.blk b_1) (SObj.cells [SV.ptr 0 b 0] 55),
        Ent.mk (Loc.blk b_2) (SObj.cells [SV.vec 1 ao (List.length ps) cap] 32)])
    | false =>
     ∀ (b_3 : Nat),
      (b_3 = b_3 ∧ true = true ∧ 1 = 1 ∧ 1 ≤ 1) ∧
       b_1 = b_1 ∧
        true = true ∧
         b = b ∧
          ∃ (h : Trk = Trk),
           AdtIs (fun (s : Trk) (b : Nat) ↦ packs (trkE s b)) trkE ∧
            pidsOk (cast h s) u ∧
             ∀ (ao_1 : Option Addr) (cap_1 bx : Nat),
              K (frm [] (bodyOf Try.f53) [1, 1, 1, 0, 1, 0] [])
               (Sy.mk (SV.ptr 0 b 0 :: (SV.str u :: (SV.vec 1 ao (List.length ps) cap :: (SV.ptr 2 b_1 0 :: (SV.raw (Value.tuple #[]) :: (SV.ptr 3 b_2 0 :: (SV.int IntKind.i64 (0 : Int) :: (SV.int IntKind.i64 (0 : Int) :: (SV.int IntKind.i64 (0 : Int) :: (SV.ptr 4 b_3 0 :: (rawE (SV.str u :: (SV.bool false :: (SV.ptr 0 b 0 :: (SV.str u :: (SV.func (Fn.func (99 : FuncId)) [] [SV.ptr 6 bx 0] :: (rawE [] 37)))))) 3)))))))))))
                [pkA b trkE s, Ent.mk (Loc.sl ao cap) (SObj.vecL (3 : TypeId) 1 encI1 ps (0 : Int)),
                 Ent.mk (Loc.blk b_1) (SObj.cells [SV.ptr 0 b 0] 55), Ent.mk (Loc.blk b_2) (SObj.cells [SV.vec 1 ao (List.length ps) cap] 32),
                 Ent.mk (Loc.blk b_3) (SObj.cells [SV.int IntKind.i64 (0 : Int)] 3), Ent.mk (Loc.sl ao_1 cap_1) (SObj.vecL (3 : TypeId) 1 encI1 (pidsL s u) (0 : Int)),
                 Ent.mk (Loc.blk bx) (SObj.cells [SV.vec 5 ao_1 (List.length (pidsL s u)) cap_1] (32 : TypeId))])) := by kernel_rfl


theorem sy_asg (K : List Frm → Sy → Prop) (X : Code → Sy → Prop) (E : Sy → Prop) (s : Trk) (b : Nat) (uu : ByteArray) (ps : List Int) (ao : Option Addr) (cap : Nat) (b3 b5 b9 D l : Nat) (g : Int) (rc : Loop) (x : Int) (u : Nat → Value) : (runR Try.prog syT (noY) true [] K X E 60 ([.code (rfA (codeAt (bodyOf Try.f53) [1, 1, 1, 0, 1, 0]))]) ⟨mkT u 55 0 [(1, .str uu), (3, .ptr 2 b3 0), (5, .ptr 3 b5 0), (8, .int .i64 0), (9, .ptr 4 b9 0), (18, .int .i64 x)], [pkA b trkE s, ⟨.sl ao cap, .vecL 3 1 encI1 ps 0⟩, ⟨.blk b3, .cells [.ptr 0 b 0] 55⟩, ⟨.blk b5, .cells [.vec 1 ao ps.length cap] 32⟩, ⟨.blk b9, .cells [.int .i64 g] 3⟩, dent D true, lp l rc .ready none]⟩) = (
E
 (Sy.mk (SV.raw (u 0) :: (SV.str uu :: (SV.raw (u 2) :: (SV.ptr 2 b3 0 :: (SV.raw (u 4) :: (SV.ptr 3 b5 0 :: (SV.raw (u 6) :: (SV.raw (u 7) :: (SV.int IntKind.i64 (0 : Int) :: (SV.ptr 4 b9 0 :: (SV.int IntKind.i64 x :: (rawR u 11 (SV.int IntKind.i64 x :: (rawR u 19 [] 36)) 7))))))))))))
  [pkA b trkE s, Ent.mk (Loc.sl ao cap) (SObj.vecL (3 : TypeId) 1 encI1 ps (0 : Int)), Ent.mk (Loc.blk b3) (SObj.cells [SV.ptr 0 b 0] (55 : TypeId)),
   Ent.mk (Loc.blk b5) (SObj.cells [SV.vec 1 ao (List.length ps) cap] (32 : TypeId)), Ent.mk (Loc.blk b9) (SObj.cells [SV.int IntKind.i64 g] (3 : TypeId)), dent D true,
   lp l rc LoopState.ready (@none Code)])) := by kernel_rfl


theorem sy_body (K : List Frm → Sy → Prop) (X : Code → Sy → Prop) (E : Sy → Prop) (s : Trk) (b : Nat) (uu : ByteArray) (ps : List Int) (ao : Option Addr) (cap : Nat) (b3 b5 b9 D l : Nat) (g : Int) (rc : Loop) (x : Int) (u : Nat → Value) : (runR Try.prog syT (noY) true [] K X E 600 ([.code (rfB (codeAt (bodyOf Try.f53) [1, 1, 1, 0, 1, 0]))]) ⟨mkT u 55 0 [(1, .str uu), (3, .ptr 2 b3 0), (5, .ptr 3 b5 0), (8, .int .i64 0), (9, .ptr 4 b9 0), (10, .int .i64 x)], [pkA b trkE s, ⟨.sl ao cap, .vecL 3 1 encI1 ps 0⟩, ⟨.blk b3, .cells [.ptr 0 b 0] 55⟩, ⟨.blk b5, .cells [.vec 1 ao ps.length cap] 32⟩, ⟨.blk b9, .cells [.int .i64 g] 3⟩, dent D true, lp l rc .busy none]⟩) = (
b5 = b5 ∧
 true = true ∧
  ∃ (xs : List Int),
   ∃ (e : Ent),
    some (Ent.mk (Loc.sl ao cap) (SObj.vecL (3 : TypeId) 1 encI1 ps (0 : Int))) = some e ∧
     (e = Ent.mk (Loc.sl ao cap) (SObj.vecL (3 : TypeId) 1 encI1 xs (0 : Int)) ∨
      e = Ent.mk (Loc.sl ao cap) (SObj.vecV (3 : TypeId) 1 (List.length ps) (List.map (fun (x : Int) ↦ SV.int IntKind.i64 x) xs))) ∧
      (List.length ps = List.length xs ∧ List.length xs ≤ 1000000) ∧
       match !List.contains xs x with
       | true =>
        b3 = b3 ∧
         true = true ∧
          b = b ∧
           ∃ (h : Trk = Trk),
            AdtIs (fun (s : Trk) (b : Nat) ↦ packs (trkE s b)) trkE ∧
             tOk s x ∧
              b9 = b9 ∧
               (b9 = b9 ∧ true = true ∧ 1 = 1 ∧ 1 ≤ 1) ∧
                E
                 (Sy.mk (SV.raw (u 0) :: (SV.str uu :: (SV.raw (u 2) :: (SV.ptr 2 b3 0 :: (SV.raw (u 4) :: (SV.ptr 3 b5 0 :: (SV.raw (u 6) :: (SV.raw (u 7) :: (SV.int IntKind.i64 (0 : Int) :: (SV.ptr 4 b9 0 :: (SV.int IntKind.i64 x :: (rawR u 11 (SV.vec 1 ao (List.length ps) cap :: (SV.int IntKind.i64 x :: (SV.bool (List.contains xs x) :: (SV.bool true :: (SV.ptr 0 b 0 :: (SV.int IntKind.i64 x :: (SV.tuple [SV.str (tGone s x).2.1, SV.int IntKind.i64 (tGone s x).2.2] :: (SV.int IntKind.i64 g :: (SV.int IntKind.i64 (IntKind.wrap IntKind.i64 (g + (1 : Int))) :: (rawR u 28 [] 27)))))))))) 8))))))))))))
                  [pkA b trkE (tGone s x).1, Ent.mk (Loc.sl ao cap) (SObj.vecL (3 : TypeId) 1 encI1 ps (0 : Int)),
                   Ent.mk (Loc.blk b3) (SObj.cells [SV.ptr 0 b 0] (55 : TypeId)),
                   Ent.mk (Loc.blk b5) (SObj.cells [SV.vec 1 ao (List.length ps) cap] (32 : TypeId)),
                   Ent.mk (Loc.blk b9) (SObj.cells [SV.int IntKind.i64 (IntKind.wrap IntKind.i64 (g + (1 : Int)))] (3 : TypeId)), dent D true, lp l rc LoopState.busy (@none Code)])
       | false =>
        E
         (Sy.mk (SV.raw (u 0) :: (SV.str uu :: (SV.raw (u 2) :: (SV.ptr 2 b3 0 :: (SV.raw (u 4) :: (SV.ptr 3 b5 0 :: (SV.raw (u 6) :: (SV.raw (u 7) :: (SV.int IntKind.i64 (0 : Int) :: (SV.ptr 4 b9 0 :: (SV.int IntKind.i64 x :: (rawR u 11 (SV.vec 1 ao (List.length ps) cap :: (SV.int IntKind.i64 x :: (SV.bool (List.contains xs x) :: (SV.bool false :: (rawR u 23 [] 32))))) 8))))))))))))
          [pkA b trkE s, Ent.mk (Loc.sl ao cap) (SObj.vecL (3 : TypeId) 1 encI1 ps (0 : Int)), Ent.mk (Loc.blk b3) (SObj.cells [SV.ptr 0 b 0] (55 : TypeId)),
           Ent.mk (Loc.blk b5) (SObj.cells [SV.vec 1 ao (List.length ps) cap] (32 : TypeId)), Ent.mk (Loc.blk b9) (SObj.cells [SV.int IntKind.i64 g] (3 : TypeId)), dent D true,
           lp l rc LoopState.busy (@none Code)])) := by kernel_rfl


theorem sy_mid (K : List Frm → Sy → Prop) (E : Sy → Prop) (N : List Ent → SV → Prop) (s : Trk) (b : Nat) (uu : ByteArray) (ps : List Int) (ao : Option Addr) (cap : Nat) (b3 b5 b9 D l : Nat) (g : Int) (rc : Loop) (u : Nat → Value) : (runR Try.prog [] (noY) true [] K (endMX Try.prog Try.f53.results.toList D 5 N) E 900 ((frm [] (bodyOf Try.f53) [1, 1, 1, 0, 1, 0] []).tail) ⟨mkT u 55 0 [(1, .str uu), (3, .ptr 2 b3 0), (5, .ptr 3 b5 0), (8, .int .i64 0), (9, .ptr 4 b9 0)], [pkA b trkE s, ⟨.sl ao cap, .vecL 3 1 encI1 ps 0⟩, ⟨.blk b3, .cells [.ptr 0 b 0] 55⟩, ⟨.blk b5, .cells [.vec 1 ao ps.length cap] 32⟩, ⟨.blk b9, .cells [.int .i64 g] 3⟩, dent D true, lp l rc .exhausted none]⟩) = (
b5 = b5 ∧
 K (frm [] (bodyOf Try.f53) [1, 1, 1, 1, 0, 1, 0] [])
  (Sy.mk (SV.raw (u 0) :: (SV.str uu :: (SV.raw (u 2) :: (SV.ptr 2 b3 0 :: (SV.raw (u 4) :: (SV.ptr 3 b5 0 :: (SV.raw (u 6) :: (SV.raw (u 7) :: (SV.int IntKind.i64 (0 : Int) :: (SV.ptr 4 b9 0 :: (rawR u 10 (SV.vec 1 ao (List.length ps) cap :: (SV.int IntKind.i64 (↑(List.length ps) : Int) :: (SV.int IntKind.i64 (0 : Int) :: (rawR u 31 [] 24)))) 18)))))))))))
   [pkA b trkE s, Ent.mk (Loc.sl ao cap) (SObj.vecL (3 : TypeId) 1 encI1 ps (0 : Int)), Ent.mk (Loc.blk b3) (SObj.cells [SV.ptr 0 b 0] (55 : TypeId)),
    Ent.mk (Loc.blk b5) (SObj.cells [SV.vec 1 ao (List.length ps) cap] (32 : TypeId)), Ent.mk (Loc.blk b9) (SObj.cells [SV.int IntKind.i64 g] (3 : TypeId)), dent D true,
    lp l rc LoopState.exhausted (@none Code)])) := by kernel_rfl


theorem sy_l2 (K : List Frm → Sy → Prop) (E : Sy → Prop) (N : List Ent → SV → Prop) (s : Trk) (b : Nat) (uu : ByteArray) (ps : List Int) (ao : Option Addr) (cap : Nat) (b3 b5 b9 D l : Nat) (g : Int) (rc : Loop) (J : Act → World → Prop) (j : Nat) (a : Int) (u : Nat → Value) : (runR Try.prog [] (noY) true [13, 16] K (endMX Try.prog Try.f53.results.toList D 5 N) E 900 (frm [J] (bodyOf Try.f53) [1, 1, 1, 1, 0, 1, 0, 0] []) ⟨mkT u 55 0 [(1, .str uu), (3, .ptr 5 b3 0), (5, .ptr 6 b5 0), (8, .int .i64 a), (9, .ptr 7 b9 0), (28, .vec 4 ao ps.length cap), (29, .int .i64 (ps.length : Int)), (30, .int .i64 (j : Int))], [⟨.blk b, .cells [.map 1 s.bo, .map 2 s.bp] 140⟩, ⟨.blk s.bo, .mapL (some .i64) encO s.of⟩, ⟨.blk s.bp, .mapL none encT s.ps⟩, pk 0 (s.ps.map setE), ⟨.sl ao cap, .vecL 3 1 encI1 ps 0⟩, ⟨.blk b3, .cells [.ptr 0 b 0] 55⟩, ⟨.blk b5, .cells [.vec 4 ao ps.length cap] 32⟩, ⟨.blk b9, .cells [.int .i64 g] 3⟩, dent D true, lp l rc .exhausted none]⟩) = (
match decide ((↑j : Int) < (↑(List.length ps) : Int)) with
| true =>
 (ao = ao ∧ cap = cap ∧ List.length ps = List.length ps ∧ (0 : Int) ≤ (↑j : Int) ∧ (↑j : Int) < (↑(List.length ps) : Int)) ∧
  (Addr.blkD ao = Addr.blkD ao ∧ Addr.offD ao = Addr.offD ao ∧ 1 = 1 ∧ Int.toNat (↑j : Int) < List.length ps) ∧
   b3 = b3 ∧
    b = b ∧
     (s.1 = s.1 ∧ some IntKind.i64 = some IntKind.i64 ∧ some IntKind.i64 = some IntKind.i64) ∧
      match mget s.3 (Key.i IntKind.i64 (List.getD ps (Int.toNat (↑j : Int)) (0 : Int))) with
      | some v =>
       match !sEq v uu with
       | true =>
        match decide (List.getD ps (Int.toNat (↑j : Int)) (0 : Int) ≥ (2 : Int)) with
        | true =>
         K (frmR [J] (bodyOf Try.f53) 13)
          (Sy.mk (SV.raw (u 0) :: (SV.str uu :: (SV.raw (u 2) :: (SV.ptr 5 b3 0 :: (SV.raw (u 4) :: (SV.ptr 6 b5 0 :: (SV.raw (u 6) :: (SV.raw (u 7) :: (SV.int IntKind.i64 a :: (SV.ptr 7 b9 0 :: (SV.raw (u 10) :: (SV.raw (u 11) :: (SV.int IntKind.i64 (List.getD ps (Int.toNat (↑j : Int)) (0 : Int)) :: (rawR u 13 (SV.vec 4 ao (List.length ps) cap :: (SV.int IntKind.i64 (↑(List.length ps) : Int) :: (SV.int IntKind.i64 (↑j : Int) :: (SV.bool true :: (SV.eptr 4 (Addr.blkD ao) (Addr.offD ao) 1 (Int.toNat (↑j : Int)) 0 :: (SV.int IntKind.i64 (List.getD ps (Int.toNat (↑j : Int)) (0 : Int)) :: (SV.ptr 0 b 0 :: (SV.ptr 0 b 0 :: (SV.ptr 0 b 0 :: (SV.map 1 s.1 :: (SV.int IntKind.i64 (List.getD ps (Int.toNat (↑j : Int)) (0 : Int)) :: (SV.str v :: (SV.str uu :: ((SV.bool !sEq v uu) :: (SV.bool true :: (SV.int IntKind.i64 (List.getD ps (Int.toNat (↑j : Int)) (0 : Int)) :: (SV.bool (decide (List.getD ps (Int.toNat (↑j : Int)) (0 : Int) ≥ (2 : Int))) :: (SV.bool true :: (rawR u 46 [] 9))))))))))))))))))) 15))))))))))))))
           [Ent.mk (Loc.blk b) (SObj.cells [SV.map 1 s.1, SV.map 2 s.2] (140 : TypeId)), Ent.mk (Loc.blk s.1) (SObj.mapL (some IntKind.i64) encO s.3),
            Ent.mk (Loc.blk s.2) (SObj.mapL (@none IntKind) encT s.4), pk 0 (List.map setE s.4), Ent.mk (Loc.sl ao cap) (SObj.vecL (3 : TypeId) 1 encI1 ps (0 : Int)),
            Ent.mk (Loc.blk b3) (SObj.cells [SV.ptr 0 b 0] (55 : TypeId)), Ent.mk (Loc.blk b5) (SObj.cells [SV.vec 4 ao (List.length ps) cap] (32 : TypeId)),
            Ent.mk (Loc.blk b9) (SObj.cells [SV.int IntKind.i64 g] (3 : TypeId)), dent D true, lp l rc LoopState.exhausted (@none Code)])
        | false =>
         K (Frm.loop J :: Frm.blk 2 :: frm [] (bodyOf Try.f53) [1, 1, 1, 1, 1] [])
          (Sy.mk (SV.raw (u 0) :: (SV.str uu :: (SV.raw (u 2) :: (SV.ptr 5 b3 0 :: (SV.raw (u 4) :: (SV.ptr 6 b5 0 :: (SV.raw (u 6) :: (SV.raw (u 7) :: (SV.int IntKind.i64 a :: (SV.ptr 7 b9 0 :: (SV.raw (u 10) :: (SV.raw (u 11) :: (SV.int IntKind.i64 (List.getD ps (Int.toNat (↑j : Int)) (0 : Int)) :: (rawR u 13 (SV.vec 4 ao (List.length ps) cap :: (SV.int IntKind.i64 (↑(List.length ps) : Int) :: (SV.int IntKind.i64 (IntKind.wrap IntKind.i64 ((↑j : Int) + (1 : Int))) :: (SV.bool true :: (SV.eptr 4 (Addr.blkD ao) (Addr.offD ao) 1 (Int.toNat (↑j : Int)) 0 :: (SV.int IntKind.i64 (List.getD ps (Int.toNat (↑j : Int)) (0 : Int)) :: (SV.ptr 0 b 0 :: (SV.ptr 0 b 0 :: (SV.ptr 0 b 0 :: (SV.map 1 s.1 :: (SV.int IntKind.i64 (List.getD ps (Int.toNat (↑j : Int)) (0 : Int)) :: (SV.str v :: (SV.str uu :: ((SV.bool !sEq v uu) :: (SV.bool true :: (SV.int IntKind.i64 (List.getD ps (Int.toNat (↑j : Int)) (0 : Int)) :: (SV.bool (decide (List.getD ps (Int.toNat (↑j : Int)) (0 : Int) ≥ (2 : Int))) :: (SV.bool false :: (rawR u 46 (SV.int IntKind.i64 (IntKind.wrap IntKind.i64 ((↑j : Int) + (1 : Int))) :: (SV.raw (u 53) :: (SV.raw (u 54) :: []))) 6))))))))))))))))))) 15))))))))))))))
           [Ent.mk (Loc.blk b) (SObj.cells [SV.map 1 s.1, SV.map 2 s.2] (140 : TypeId)), Ent.mk (Loc.blk s.1) (SObj.mapL (some IntKind.i64) encO s.3),
            Ent.mk (Loc.blk s.2) (SObj.mapL (@none IntKind) encT s.4), pk 0 (List.map setE s.4), Ent.mk (Loc.sl ao cap) (SObj.vecL (3 : TypeId) 1 encI1 ps (0 : Int)),
            Ent.mk (Loc.blk b3) (SObj.cells [SV.ptr 0 b 0] (55 : TypeId)), Ent.mk (Loc.blk b5) (SObj.cells [SV.vec 4 ao (List.length ps) cap] (32 : TypeId)),
            Ent.mk (Loc.blk b9) (SObj.cells [SV.int IntKind.i64 g] (3 : TypeId)), dent D true, lp l rc LoopState.exhausted (@none Code)])
       | false =>
        K (Frm.loop J :: Frm.blk 2 :: frm [] (bodyOf Try.f53) [1, 1, 1, 1, 1] [])
         (Sy.mk (SV.raw (u 0) :: (SV.str uu :: (SV.raw (u 2) :: (SV.ptr 5 b3 0 :: (SV.raw (u 4) :: (SV.ptr 6 b5 0 :: (SV.raw (u 6) :: (SV.raw (u 7) :: (SV.int IntKind.i64 a :: (SV.ptr 7 b9 0 :: (SV.raw (u 10) :: (SV.raw (u 11) :: (SV.int IntKind.i64 (List.getD ps (Int.toNat (↑j : Int)) (0 : Int)) :: (rawR u 13 (SV.vec 4 ao (List.length ps) cap :: (SV.int IntKind.i64 (↑(List.length ps) : Int) :: (SV.int IntKind.i64 (IntKind.wrap IntKind.i64 ((↑j : Int) + (1 : Int))) :: (SV.bool true :: (SV.eptr 4 (Addr.blkD ao) (Addr.offD ao) 1 (Int.toNat (↑j : Int)) 0 :: (SV.int IntKind.i64 (List.getD ps (Int.toNat (↑j : Int)) (0 : Int)) :: (SV.ptr 0 b 0 :: (SV.ptr 0 b 0 :: (SV.ptr 0 b 0 :: (SV.map 1 s.1 :: (SV.int IntKind.i64 (List.getD ps (Int.toNat (↑j : Int)) (0 : Int)) :: (SV.str v :: (SV.str uu :: ((SV.bool !sEq v uu) :: (SV.bool false :: (SV.raw (Value.tuple #[]) :: (SV.raw (Value.tuple #[]) :: (SV.bool false :: (rawR u 46 (SV.int IntKind.i64 (IntKind.wrap IntKind.i64 ((↑j : Int) + (1 : Int))) :: (SV.raw (u 53) :: (SV.raw (u 54) :: []))) 6))))))))))))))))))) 15))))))))))))))
          [Ent.mk (Loc.blk b) (SObj.cells [SV.map 1 s.1, SV.map 2 s.2] (140 : TypeId)), Ent.mk (Loc.blk s.1) (SObj.mapL (some IntKind.i64) encO s.3),
           Ent.mk (Loc.blk s.2) (SObj.mapL (@none IntKind) encT s.4), pk 0 (List.map setE s.4), Ent.mk (Loc.sl ao cap) (SObj.vecL (3 : TypeId) 1 encI1 ps (0 : Int)),
           Ent.mk (Loc.blk b3) (SObj.cells [SV.ptr 0 b 0] (55 : TypeId)), Ent.mk (Loc.blk b5) (SObj.cells [SV.vec 4 ao (List.length ps) cap] (32 : TypeId)),
           Ent.mk (Loc.blk b9) (SObj.cells [SV.int IntKind.i64 g] (3 : TypeId)), dent D true, lp l rc LoopState.exhausted (@none Code)])
      | none =>
       match !sEq (ByteArray.mk #[]) uu with
       | true =>
        match decide (List.getD ps (Int.toNat (↑j : Int)) (0 : Int) ≥ (2 : Int)) with
        | true =>
         K (frmR [J] (bodyOf Try.f53) 13)
          (Sy.mk (SV.raw (u 0) :: (SV.str uu :: (SV.raw (u 2) :: (SV.ptr 5 b3 0 :: (SV.raw (u 4) :: (SV.ptr 6 b5 0 :: (SV.raw (u 6) :: (SV.raw (u 7) :: (SV.int IntKind.i64 a :: (SV.ptr 7 b9 0 :: (SV.raw (u 10) :: (SV.raw (u 11) :: (SV.int IntKind.i64 (List.getD ps (Int.toNat (↑j : Int)) (0 : Int)) :: (rawR u 13 (SV.vec 4 ao (List.length ps) cap :: (SV.int IntKind.i64 (↑(List.length ps) : Int) :: (SV.int IntKind.i64 (↑j : Int) :: (SV.bool true :: (SV.eptr 4 (Addr.blkD ao) (Addr.offD ao) 1 (Int.toNat (↑j : Int)) 0 :: (SV.int IntKind.i64 (List.getD ps (Int.toNat (↑j : Int)) (0 : Int)) :: (SV.ptr 0 b 0 :: (SV.ptr 0 b 0 :: (SV.ptr 0 b 0 :: (SV.map 1 s.1 :: (SV.int IntKind.i64 (List.getD ps (Int.toNat (↑j : Int)) (0 : Int)) :: (SV.str (ByteArray.mk #[]) :: (SV.str uu :: ((SV.bool !sEq (ByteArray.mk #[]) uu) :: (SV.bool true :: (SV.int IntKind.i64 (List.getD ps (Int.toNat (↑j : Int)) (0 : Int)) :: (SV.bool (decide (List.getD ps (Int.toNat (↑j : Int)) (0 : Int) ≥ (2 : Int))) :: (SV.bool true :: (rawR u 46 [] 9))))))))))))))))))) 15))))))))))))))
           [Ent.mk (Loc.blk b) (SObj.cells [SV.map 1 s.1, SV.map 2 s.2] (140 : TypeId)), Ent.mk (Loc.blk s.1) (SObj.mapL (some IntKind.i64) encO s.3),
            Ent.mk (Loc.blk s.2) (SObj.mapL (@none IntKind) encT s.4), pk 0 (List.map setE s.4), Ent.mk (Loc.sl ao cap) (SObj.vecL (3 : TypeId) 1 encI1 ps (0 : Int)),
            Ent.mk (Loc.blk b3) (SObj.cells [SV.ptr 0 b 0] (55 : TypeId)), Ent.mk (Loc.blk b5) (SObj.cells [SV.vec 4 ao (List.length ps) cap] (32 : TypeId)),
            Ent.mk (Loc.blk b9) (SObj.cells [SV.int IntKind.i64 g] (3 : TypeId)), dent D true, lp l rc LoopState.exhausted (@none Code)])
        | false =>
         K (Frm.loop J :: Frm.blk 2 :: frm [] (bodyOf Try.f53) [1, 1, 1, 1, 1] [])
          (Sy.mk (SV.raw (u 0) :: (SV.str uu :: (SV.raw (u 2) :: (SV.ptr 5 b3 0 :: (SV.raw (u 4) :: (SV.ptr 6 b5 0 :: (SV.raw (u 6) :: (SV.raw (u 7) :: (SV.int IntKind.i64 a :: (SV.ptr 7 b9 0 :: (SV.raw (u 10) :: (SV.raw (u 11) :: (SV.int IntKind.i64 (List.getD ps (Int.toNat (↑j : Int)) (0 : Int)) :: (rawR u 13 (SV.vec 4 ao (List.length ps) cap :: (SV.int IntKind.i64 (↑(List.length ps) : Int) :: (SV.int IntKind.i64 (IntKind.wrap IntKind.i64 ((↑j : Int) + (1 : Int))) :: (SV.bool true :: (SV.eptr 4 (Addr.blkD ao) (Addr.offD ao) 1 (Int.toNat (↑j : Int)) 0 :: (SV.int IntKind.i64 (List.getD ps (Int.toNat (↑j : Int)) (0 : Int)) :: (SV.ptr 0 b 0 :: (SV.ptr 0 b 0 :: (SV.ptr 0 b 0 :: (SV.map 1 s.1 :: (SV.int IntKind.i64 (List.getD ps (Int.toNat (↑j : Int)) (0 : Int)) :: (SV.str (ByteArray.mk #[]) :: (SV.str uu :: ((SV.bool !sEq (ByteArray.mk #[]) uu) :: (SV.bool true :: (SV.int IntKind.i64 (List.getD ps (Int.toNat (↑j : Int)) (0 : Int)) :: (SV.bool (decide (List.getD ps (Int.toNat (↑j : Int)) (0 : Int) ≥ (2 : Int))) :: (SV.bool false :: (rawR u 46 (SV.int IntKind.i64 (IntKind.wrap IntKind.i64 ((↑j : Int) + (1 : Int))) :: (SV.raw (u 53) :: (SV.raw (u 54) :: []))) 6))))))))))))))))))) 15))))))))))))))
           [Ent.mk (Loc.blk b) (SObj.cells [SV.map 1 s.1, SV.map 2 s.2] (140 : TypeId)), Ent.mk (Loc.blk s.1) (SObj.mapL (some IntKind.i64) encO s.3),
            Ent.mk (Loc.blk s.2) (SObj.mapL (@none IntKind) encT s.4), pk 0 (List.map setE s.4), Ent.mk (Loc.sl ao cap) (SObj.vecL (3 : TypeId) 1 encI1 ps (0 : Int)),
            Ent.mk (Loc.blk b3) (SObj.cells [SV.ptr 0 b 0] (55 : TypeId)), Ent.mk (Loc.blk b5) (SObj.cells [SV.vec 4 ao (List.length ps) cap] (32 : TypeId)),
            Ent.mk (Loc.blk b9) (SObj.cells [SV.int IntKind.i64 g] (3 : TypeId)), dent D true, lp l rc LoopState.exhausted (@none Code)])
       | false =>
        K (Frm.loop J :: Frm.blk 2 :: frm [] (bodyOf Try.f53) [1, 1, 1, 1, 1] [])
         (Sy.mk (SV.raw (u 0) :: (SV.str uu :: (SV.raw (u 2) :: (SV.ptr 5 b3 0 :: (SV.raw (u 4) :: (SV.ptr 6 b5 0 :: (SV.raw (u 6) :: (SV.raw (u 7) :: (SV.int IntKind.i64 a :: (SV.ptr 7 b9 0 :: (SV.raw (u 10) :: (SV.raw (u 11) :: (SV.int IntKind.i64 (List.getD ps (Int.toNat (↑j : Int)) (0 : Int)) :: (rawR u 13 (SV.vec 4 ao (List.length ps) cap :: (SV.int IntKind.i64 (↑(List.length ps) : Int) :: (SV.int IntKind.i64 (IntKind.wrap IntKind.i64 ((↑j : Int) + (1 : Int))) :: (SV.bool true :: (SV.eptr 4 (Addr.blkD ao) (Addr.offD ao) 1 (Int.toNat (↑j : Int)) 0 :: (SV.int IntKind.i64 (List.getD ps (Int.toNat (↑j : Int)) (0 : Int)) :: (SV.ptr 0 b 0 :: (SV.ptr 0 b 0 :: (SV.ptr 0 b 0 :: (SV.map 1 s.1 :: (SV.int IntKind.i64 (List.getD ps (Int.toNat (↑j : Int)) (0 : Int)) :: (SV.str (ByteArray.mk #[]) :: (SV.str uu :: ((SV.bool !sEq (ByteArray.mk #[]) uu) :: (SV.bool false :: (SV.raw (Value.tuple #[]) :: (SV.raw (Value.tuple #[]) :: (SV.bool false :: (rawR u 46 (SV.int IntKind.i64 (IntKind.wrap IntKind.i64 ((↑j : Int) + (1 : Int))) :: (SV.raw (u 53) :: (SV.raw (u 54) :: []))) 6))))))))))))))))))) 15))))))))))))))
          [Ent.mk (Loc.blk b) (SObj.cells [SV.map 1 s.1, SV.map 2 s.2] (140 : TypeId)), Ent.mk (Loc.blk s.1) (SObj.mapL (some IntKind.i64) encO s.3),
           Ent.mk (Loc.blk s.2) (SObj.mapL (@none IntKind) encT s.4), pk 0 (List.map setE s.4), Ent.mk (Loc.sl ao cap) (SObj.vecL (3 : TypeId) 1 encI1 ps (0 : Int)),
           Ent.mk (Loc.blk b3) (SObj.cells [SV.ptr 0 b 0] (55 : TypeId)), Ent.mk (Loc.blk b5) (SObj.cells [SV.vec 4 ao (List.length ps) cap] (32 : TypeId)),
           Ent.mk (Loc.blk b9) (SObj.cells [SV.int IntKind.i64 g] (3 : TypeId)), dent D true, lp l rc LoopState.exhausted (@none Code)])
| false =>
 K (frmR [] (bodyOf Try.f53) 16)
  (Sy.mk (SV.raw (u 0) :: (SV.str uu :: (SV.raw (u 2) :: (SV.ptr 5 b3 0 :: (SV.raw (u 4) :: (SV.ptr 6 b5 0 :: (SV.raw (u 6) :: (SV.raw (u 7) :: (SV.int IntKind.i64 a :: (SV.ptr 7 b9 0 :: (rawR u 10 (SV.vec 4 ao (List.length ps) cap :: (SV.int IntKind.i64 (↑(List.length ps) : Int) :: (SV.int IntKind.i64 (↑j : Int) :: (SV.bool false :: (rawR u 32 [] 23))))) 18)))))))))))
   [Ent.mk (Loc.blk b) (SObj.cells [SV.map 1 s.1, SV.map 2 s.2] (140 : TypeId)), Ent.mk (Loc.blk s.1) (SObj.mapL (some IntKind.i64) encO s.3),
    Ent.mk (Loc.blk s.2) (SObj.mapL (@none IntKind) encT s.4), pk 0 (List.map setE s.4), Ent.mk (Loc.sl ao cap) (SObj.vecL (3 : TypeId) 1 encI1 ps (0 : Int)),
    Ent.mk (Loc.blk b3) (SObj.cells [SV.ptr 0 b 0] (55 : TypeId)), Ent.mk (Loc.blk b5) (SObj.cells [SV.vec 4 ao (List.length ps) cap] (32 : TypeId)),
    Ent.mk (Loc.blk b9) (SObj.cells [SV.int IntKind.i64 g] (3 : TypeId)), dent D true, lp l rc LoopState.exhausted (@none Code)])) := by kernel_rfl


theorem sy_13 (K : List Frm → Sy → Prop) (E : Sy → Prop) (N : List Ent → SV → Prop) (s : Trk) (b : Nat) (uu : ByteArray) (ps : List Int) (ao : Option Addr) (cap : Nat) (b3 b5 b9 D l : Nat) (g : Int) (rc : Loop) (J : Act → World → Prop) (j : Nat) (a x : Int) (u : Nat → Value) : (runR Try.prog syT2 (noY) true [] K (endMX Try.prog Try.f53.results.toList D 5 N) E 900 (frmR [J] (bodyOf Try.f53) 13) ⟨mkT u 55 0 [(1, .str uu), (3, .ptr 2 b3 0), (5, .ptr 3 b5 0), (8, .int .i64 a), (9, .ptr 4 b9 0), (12, .int .i64 x), (28, .vec 1 ao ps.length cap), (29, .int .i64 (ps.length : Int)), (30, .int .i64 (j : Int))], [pkA b trkE s, ⟨.sl ao cap, .vecL 3 1 encI1 ps 0⟩, ⟨.blk b3, .cells [.ptr 0 b 0] 55⟩, ⟨.blk b5, .cells [.vec 1 ao ps.length cap] 32⟩, ⟨.blk b9, .cells [.int .i64 g] 3⟩, dent D true, lp l rc .exhausted none]⟩) = (
b3 = b3 ∧
 true = true ∧
  b = b ∧
   ∃ (h : Trk = Trk),
    AdtIs (fun (s : Trk) (b : Nat) ↦ packs (trkE s b)) trkE ∧
     tOk s x ∧
      ∀ (nb : Nat),
       K (Frm.loop J :: Frm.blk 2 :: frm [] (bodyOf Try.f53) [1, 1, 1, 1, 1] [])
        (Sy.mk (SV.raw (u 0) :: (SV.str uu :: (SV.raw (u 2) :: (SV.ptr 2 b3 0 :: (SV.raw (u 4) :: (SV.ptr 3 b5 0 :: (SV.raw (u 6) :: (SV.raw (u 7) :: (SV.int IntKind.i64 (IntKind.wrap IntKind.i64 (a + (1 : Int))) :: (SV.ptr 4 b9 0 :: (SV.raw (u 10) :: (SV.raw (u 11) :: (SV.int IntKind.i64 x :: (rawR u 13 (SV.vec 1 ao (List.length ps) cap :: (SV.int IntKind.i64 (↑(List.length ps) : Int) :: (SV.int IntKind.i64 (IntKind.wrap IntKind.i64 ((↑j : Int) + (1 : Int))) :: (rawR u 31 (SV.ptr 0 b 0 :: (SV.str uu :: (SV.int IntKind.i64 x :: (SV.tuple [] :: (SV.int IntKind.i64 a :: (SV.int IntKind.i64 (IntKind.wrap IntKind.i64 (a + (1 : Int))) :: (SV.int IntKind.i64 (IntKind.wrap IntKind.i64 ((↑j : Int) + (1 : Int))) :: (SV.raw (u 53) :: (SV.raw (u 54) :: []))))))))) 15)))) 15))))))))))))))
         [pkA b trkE (tPut (tGone s x).1 uu x nb), Ent.mk (Loc.sl ao cap) (SObj.vecL (3 : TypeId) 1 encI1 ps (0 : Int)),
          Ent.mk (Loc.blk b3) (SObj.cells [SV.ptr 0 b 0] (55 : TypeId)), Ent.mk (Loc.blk b5) (SObj.cells [SV.vec 1 ao (List.length ps) cap] (32 : TypeId)),
          Ent.mk (Loc.blk b9) (SObj.cells [SV.int IntKind.i64 g] (3 : TypeId)), dent D true, lp l rc LoopState.exhausted (@none Code)])) := by kernel_rfl


theorem sy_16 (K : List Frm → Sy → Prop) (E : Sy → Prop) (N : List Ent → SV → Prop) (s : Trk) (b : Nat) (uu : ByteArray) (ps : List Int) (ao : Option Addr) (cap : Nat) (b3 b5 b9 D l : Nat) (g : Int) (rc : Loop) (a : Int) (u : Nat → Value) : (runR Try.prog [] (noY) true [] K (endMX Try.prog Try.f53.results.toList D 5 N) E 900 (frmR [] (bodyOf Try.f53) 16) ⟨mkT u 55 0 [(8, .int .i64 a), (9, .ptr 4 b9 0)], [pkA b trkE s, ⟨.sl ao cap, .vecL 3 1 encI1 ps 0⟩, ⟨.blk b3, .cells [.ptr 0 b 0] 55⟩, ⟨.blk b5, .cells [.vec 1 ao ps.length cap] 32⟩, ⟨.blk b9, .cells [.int .i64 g] 3⟩, dent D true, lp l rc .exhausted none]⟩) = (
b9 = b9 ∧
 some (dent D true) = some (dent D true) ∧
  N
   [pkA b trkE s, Ent.mk (Loc.sl ao cap) (SObj.vecL (3 : TypeId) 1 encI1 ps (0 : Int)), Ent.mk (Loc.blk b3) (SObj.cells [SV.ptr 0 b 0] (55 : TypeId)),
    Ent.mk (Loc.blk b5) (SObj.cells [SV.vec 1 ao (List.length ps) cap] (32 : TypeId)), Ent.mk (Loc.blk b9) (SObj.cells [SV.int IntKind.i64 g] (3 : TypeId)), dent D false,
    lp l rc LoopState.exhausted (@none Code)]
   (SV.tuple [SV.int IntKind.i64 a, SV.int IntKind.i64 g])) := by kernel_rfl
end Go.Proofs.Ytihajdkipkfiiaa

