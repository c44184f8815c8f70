import Derived.Test.YtkcmgcoppecfpaaGreatMgKernHolds9
import Derived.Test.YtkcmgcoppecfpaaGreatMgKernHolds10
import Derived.Test.YtkcmgcoppecfpaaGreatMgKernHolds6
import Derived.Test.YtkcmgcoppecfpaaGreatMgKernHolds8
import Derived.Test.YtkcmgcoppecfpaaGreatMgKernHolds7
/- YtkcmgcoppecfpaaGreatKl -/
/- The kernel's laws: known. -/
namespace Go.Proofs.YtkcmgcoppecfpaaGreat
open Go Go.RowKit
set_option linter.unusedVariables false
set_option linter.unusedSimpArgs false
set_option linter.unnecessarySimpa false
set_option maxHeartbeats 0

def keysB {β : Type} : List (Key × β) → Bool
  | [] => true
  | a :: l => l.all (fun c => !keyEq a.1 c.1) && keysB l
theorem keysOk_lit {β : Type} : ∀ {es : List (Key × β)}, keysB es = true → keysOk es
  | [], _ => List.Pairwise.nil
  | a :: l, h => by
    simp only [keysB, Bool.and_eq_true, List.all_eq_true, Bool.not_eq_true'] at h
    exact List.pairwise_cons.2 ⟨h.1, keysOk_lit h.2⟩
def wfIB (ms : List (Key × Unit)) : Bool := keysB ms && Nat.ble ms.length 1000000 && ms.all fun e => (Lit.int .i64 (keyInt e.1)).wf
def gsB (s : Grp) : Bool := keysB s.gs && Nat.ble s.gs.length 1000000 && s.gs.all (fun e => (keyKind e.1).isNone && Nat.ble (keyStr e.1).length 1000) && s.gs.all fun e => wfIB e.2.2
theorem gsOk_lit {s : Grp} (h : gsB s = true) : gsOk s := by
  simp only [gsB, Bool.and_eq_true, List.all_eq_true, Nat.ble_eq, Option.isNone_iff_eq_none] at h
  obtain ⟨⟨⟨h1, h2⟩, h3⟩, h4⟩ := h
  refine ⟨⟨keysOk_lit h1, by omega, fun e he => ?_⟩, h2, fun e he => (h3 e he).1, fun n x hx => ?_⟩
  · have := (h3 e he).2
    unfold maxLen at *
    omega
  · obtain ⟨k', hm, _⟩ := mget_mem hx
    have := h4 _ hm
    simp only [wfIB, Bool.and_eq_true, List.all_eq_true, Nat.ble_eq] at this
    obtain ⟨⟨q1, q2⟩, q3⟩ := this
    exact ⟨⟨keysOk_lit q1, by omega, q3⟩, q2⟩
theorem gOk_litK {s : Grp} {pid : Int} (h : Nat.ble s.notes.length 100000000 = true) (h2 : (match mget s.of (.i .i64 pid) with | none => true | some n => (mget s.gs (.s n)).isSome) = true) : gOk s pid := by
  refine ⟨Nat.le_of_ble_eq_true h, fun n hn => ?_⟩
  rw [hn] at h2
  exact Option.isSome_iff_exists.1 h2
theorem memGOk_lit {s : Grp} {n : ByteArray} (h : gsB s = true) : memGOk s n := (gsOk_lit h).mem n
def ascBK : List Int → Bool
  | [] => true
  | a :: l => l.all (fun b => decide (a < b)) && ascBK l
theorem ascK_of : ∀ {l : List Int}, ascBK l = true → l.Pairwise (· < ·)
  | [], _ => .nil
  | a :: l, h => by
    simp only [ascBK, Bool.and_eq_true, List.all_eq_true, decide_eq_true_eq] at h
    exact .cons h.1 (ascK_of h.2)
theorem pOk_litK {s : PT} (h1 : ascBK (s.ps.map (·.2.pid)) = true) (h2 : (s.ps.map (·.2.pid)).all (fun p => decide (1 ≤ p) && decide (p ≤ s.last)) = true) (h3 : (decide (s.last ≤ 1000000) && Nat.ble s.ps.length 1000000 && decide (0 ≤ s.room) && decide (s.room ≤ 64)) = true) : pOk s := by
  simp only [Bool.and_eq_true, decide_eq_true_eq, Nat.ble_eq] at h3
  refine ⟨by simpa [List.pairwise_map] using ascK_of h1, fun x hx => ?_, h3.1.1.1, h3.1.1.2, h3.1.2, h3.2⟩
  have := List.all_eq_true.1 h2 x.2.pid (List.mem_map.2 ⟨x, hx, rfl⟩)
  simpa using this
theorem known12_ok : CtrOk Tryz.prog 5 trueKC := by
  intro args hs N h
  unfold trueKC at h
  split at h
  · refine Spec.lift (Φ := fun r => r = .bool true) ?_ (fun r hr => by rw [hr]; exact h)
    refine Spec.of_G 83 Tryz.func5 (c := bodyOf Tryz.f5) (by kernel_rfl) (by kernel_rfl) (Nat.le_of_ble_eq_true rfl) fun W F => ?_
    refine G_run (kc := false) (ss := []) knT_ok hmK 4000 ?_
    rw [known12]
    repeat' first
      | exact pOk_litK rfl rfl rfl
      | exact gsOk_lit rfl
      | exact memGOk_lit rfl
      | exact gOk_litK rfl rfl
      | exact keysOk_lit rfl
      | apply And.intro
      | exact rfl
      | exact HEq.rfl
      | (show _ ≤ _; decide)
      | (refine fun _ => ?_)
      | (refine ⟨rfl, ?_⟩)
  · exact h.elim
theorem klT_ok : AllOk Tryz.prog klT := ⟨known12_ok, knT_ok⟩
theorem klTJ_ok : AllOk Tryz.prog klTJ := ⟨known12_ok, knTJ_ok⟩
end Go.Proofs.YtkcmgcoppecfpaaGreat

/- YtkcmgcoppecfpaaGreatRgC -/
/- The document's groups (reveilleref9). -/
namespace Go.Proofs.YtkcmgcoppecfpaaGreat
open Go Go.RowKit
set_option linter.unusedVariables false
set_option linter.unusedSimpArgs false
set_option linter.unnecessarySimpa false
set_option maxHeartbeats 0

/-- The document's groups. -/
structure RGrp where
  (name : ByteArray) (ao : Option Addr) (cap : Nat) (pids : List Int)
structure RG where
  (aoL : Option Addr) (capL : Nat) (L : List RGrp) (aoN : Option Addr) (capN : Nat) (notes : List ByteArray)
def encRg (g : RGrp) : List SV := [.str g.name, .vec 4 g.ao g.pids.length g.cap]
def zR : RGrp := ⟨⟨#[]⟩, none, 0, []⟩
def pidE (g : RGrp) : Ent := ⟨.sl g.ao g.cap, .vecL 3 1 encI1 g.pids 0⟩
def rgE (r : RG) (b : Nat) : List Ent := [⟨.blk b, .cells [.vec 1 r.aoL r.L.length r.capL, .vec 2 r.aoN r.notes.length r.capN] 126⟩, ⟨.sl r.aoL r.capL, .vecL 131 2 encRg r.L zR⟩, ⟨.sl r.aoN r.capN, .vecL 9 1 encS r.notes ByteArray.empty⟩, pk 0 (r.L.map pidE)]
/-- Where a name stands, or is to stand. -/
def rAt (L : List RGrp) (name : ByteArray) : Nat := (L.takeWhile fun g => sLt g.name name).length
def rHas (L : List RGrp) (name : ByteArray) : Bool := decide (rAt L name < L.length) && sEq (L.getD (rAt L name) zR).name name
def rMake (r : RG) (name : ByteArray) (ao : Option Addr) (cap : Nat) : RG × Int := match sEq name ⟨#[]⟩ with
  | true => (r, 90)
  | false => match rHas r.L name with
    | true => (r, 91)
    | false => ({ r with L := r.L.take (rAt r.L name) ++ ⟨name, none, 0, []⟩ :: r.L.drop (rAt r.L name), aoL := ao, capL := cap }, 0)
def rRemove (r : RG) (name : ByteArray) (ao : Option Addr) (cap : Nat) (aoN : Option Addr) (capN : Nat) : RG × Int := match rHas r.L name with
  | false => (r, 90)
  | true => match decide (((r.L.getD (rAt r.L name) zR).pids.length : Int) > 0) with
    | true => (r, 91)
    | false => (⟨ao, cap, r.L.take (rAt r.L name) ++ r.L.drop (rAt r.L name + 1), aoN, capN, r.notes.filter fun x => !sEq x name⟩, 0)
def rOf (L : List RGrp) (pid : Int) : Option ByteArray := (L.find? fun g => g.pids.contains pid).map (·.name)
/-- A group's members are others. -/
def rSet (L : List RGrp) (i : Nat) (l : List Int) (ao : Option Addr) (cap : Nat) : List RGrp := L.set i { L.getD i zR with pids := l, ao := ao, cap := cap }
def rGone (r : RG) (pid : Int) (ao : Option Addr) (cap : Nat) (aoN : Option Addr) (capN : Nat) : RG × Bool := match rOf r.L pid with
  | none => (r, false)
  | some n => match (((r.L.getD (rAt r.L n) zR).pids.filter fun p => p != pid).length == 0) && !(r.notes.any fun x => sEq x n) with
    | true => ({ r with L := rSet r.L (rAt r.L n) ((r.L.getD (rAt r.L n) zR).pids.filter fun p => p != pid) ao cap, notes := r.notes ++ [n], aoN := aoN, capN := capN }, true)
    | false => ({ r with L := rSet r.L (rAt r.L n) ((r.L.getD (rAt r.L n) zR).pids.filter fun p => p != pid) ao cap }, true)
/-- A number among those that rise. -/
def insI (l : List Int) (p : Int) : List Int := l.takeWhile (fun x => decide (x < p)) ++ p :: l.dropWhile (fun x => decide (x < p))
def rPut2 (r : RG) (pid : Int) (name : ByteArray) (ao : Option Addr) (cap : Nat) : RG := { r with L := rSet r.L (rAt r.L name) (insI (r.L.getD (rAt r.L name) zR).pids pid) ao cap }
def rIn (L : List RGrp) (pid : Int) (name : ByteArray) : Bool := match rOf L pid with
  | some n => sEq n name
  | none => false
def rPut (r : RG) (pid : Int) (name : ByteArray) (ao1 : Option Addr) (cap1 : Nat) (aoN : Option Addr) (capN : Nat) (ao : Option Addr) (cap : Nat) : RG × Int := match !rHas r.L name || decide (pid < 2) with
  | true => (r, 90)
  | false => match rIn r.L pid name with
    | true => (r, 0)
    | false => (rPut2 (rGone r pid ao1 cap1 aoN capN).1 pid name ao cap, 0)
def rMem (L : List RGrp) (name : ByteArray) : List Int := match rHas L name with
  | true => (L.getD (rAt L name) zR).pids
  | false => []
/-- The first of the notes that is of an empty group. -/
def rFirst (L : List RGrp) : List ByteArray → List ByteArray × Option ByteArray
  | [] => ([], none)
  | n :: l => match rHas L n && ((L.getD (rAt L n) zR).pids.length == 0) with
    | true => (l, some n)
    | false => rFirst L l
/-- Few enough; each process's group is where its name stands. -/
def rOk (r : RG) : Prop := r.L.length ≤ 1000 ∧ r.notes.length ≤ 1000000 ∧ ∀ g ∈ r.L, g.pids.length ≤ 1000
def ratM (r : RG) (args : List SV) (N : RG → SV → Prop) : Prop := match args with
  | [.str name] => rOk r ∧ N r (.tuple [.int .i64 (rAt r.L name : Int), .bool (rHas r.L name)])
  | _ => False
def rmakeM (r : RG) (args : List SV) (N : RG → SV → Prop) : Prop := match args with
  | [.str name] => rOk r ∧ ∀ ao cap, N (rMake r name ao cap).1 (.int .i64 (rMake r name ao cap).2)
  | _ => False
def rforgetM (r : RG) (args : List SV) (N : RG → SV → Prop) : Prop := match args with
  | [.str name] => rOk r ∧ ∀ ao cap, N { r with notes := r.notes.filter (fun x => !sEq x name), aoN := ao, capN := cap } (.tuple [])
  | _ => False
def rremoveM (r : RG) (args : List SV) (N : RG → SV → Prop) : Prop := match args with
  | [.str name] => rOk r ∧ ∀ ao cap aoN capN, N (rRemove r name ao cap aoN capN).1 (.int .i64 (rRemove r name ao cap aoN capN).2)
  | _ => False
def rofM (r : RG) (args : List SV) (N : RG → SV → Prop) : Prop := match args with
  | [.int .i64 pid] => rOk r ∧ N r (.tuple [.str ((rOf r.L pid).getD ⟨#[]⟩), .bool (rOf r.L pid).isSome])
  | _ => False
/-- Each process's group is found by its name. -/
def rAtOk (L : List RGrp) (pid : Int) : Prop := ∀ n, rOf L pid = some n → rHas L n = true
def rgoneM (r : RG) (args : List SV) (N : RG → SV → Prop) : Prop := match args with
  | [.int .i64 pid] => (rOk r ∧ rAtOk r.L pid) ∧ ∀ ao cap aoN capN, N (rGone r pid ao cap aoN capN).1 (.bool (rGone r pid ao cap aoN capN).2)
  | _ => False
def rputM (r : RG) (args : List SV) (N : RG → SV → Prop) : Prop := match args with
  | [.int .i64 pid, .str name] => ((rOk r ∧ r.notes.length ≤ 10000) ∧ rAtOk r.L pid) ∧ ∀ ao1 cap1 aoN capN ao cap, N (rPut r pid name ao1 cap1 aoN capN ao cap).1 (.int .i64 (rPut r pid name ao1 cap1 aoN capN ao cap).2)
  | _ => False
def remptiedM (r : RG) (args : List SV) (N : RG → SV → Prop) : Prop := match args with
  | [] => rOk r ∧ ∀ ao cap, N { r with notes := (rFirst r.L r.notes).1, aoN := ao, capN := cap } (.tuple [.str ((rFirst r.L r.notes).2.getD ⟨#[]⟩), .bool (rFirst r.L r.notes).2.isSome])
  | _ => False
/-- Members: a row of its own. -/
def rmembersC : Ctr := fun args hs N => match args with
  | [.ptr l b 0, .str name] => match nth hs l with
    | some ⟨.blk b', .adt (σ := σ') p r⟩ => b' = b ∧ ∃ h : σ' = RG, AdtIs p rgE ∧ rOk (cast h r) ∧
        ∀ ao cap, N (snoc hs ⟨.sl ao cap, .vecL 3 1 encI1 (rMem (cast h r).L name) 0⟩) (.vec (lenN hs) ao (rMem (cast h r).L name).length cap)
    | _ => False
  | _ => False
end Go.Proofs.YtkcmgcoppecfpaaGreat

/- YtkcmgcoppecfpaaGreatGrpT -/
/- The groups' methods as1 a table. -/
namespace Go.Proofs.YtkcmgcoppecfpaaGreat
open Go Go.RowKit
set_option linter.unusedVariables false
end Go.Proofs.YtkcmgcoppecfpaaGreat

/- YtkcmgcoppecfpaaGreatGoP -/
/- GroupOne: what its calls do to the groups. -/
namespace Go.Proofs.YtkcmgcoppecfpaaGreat
open Go Go.RowKit
set_option linter.unusedVariables false
set_option linter.unusedSimpArgs false
set_option linter.unnecessarySimpa false

def encU8 (x : Int) : List SV := [.int .u8 x]
/-- A function that needs nothing and says 'true'. -/
def trueC : Ctr := fun args hs N => match args with
  | [] => N hs (.bool true)
  | _ => False
def names4 : List ByteArray := [⟨#[97]⟩, ⟨#[98]⟩, ⟨#[99]⟩, ⟨#[100]⟩]
def nm4 (k : Nat) : ByteArray := names4.getD k ⟨#[]⟩
theorem nm4_all : ∀ i : _root_.Fin 4, ∀ j : _root_.Fin 4, keyEq (.s (nm4 i.1)) (.s (nm4 j.1)) = decide (i.1 = j.1) ∧ sEq (nm4 i.1) (nm4 j.1) = decide (i.1 = j.1) := by decide +kernel
theorem nm4_key {i j : Nat} (hi : i < 4) (hj : j < 4) : keyEq (.s (nm4 i)) (.s (nm4 j)) = decide (i = j) := (nm4_all ⟨i, hi⟩ ⟨j, hj⟩).1
theorem nm4_eq {i j : Nat} (hi : i < 4) (hj : j < 4) : sEq (nm4 i) (nm4 j) = decide (i = j) := (nm4_all ⟨i, hi⟩ ⟨j, hj⟩).2
theorem key_int (a b : Int) : keyEq (.i .i64 a) (.i .i64 b) = decide (a = b) := by rw [Bool.eq_iff_iff]; simp [keyEq]

/-- One group's members: those of the array. -/
structure MO (arr : List Int) (k : Nat) (ms : List (Key × Unit)) : Prop where
  ok : keysOk ms
  key : ∀ e ∈ ms, ∃ p : Nat, (2 ≤ p ∧ p < 10) ∧ e.1 = .i .i64 (p : Int)
  has : ∀ p : Nat, 2 ≤ p → p < 10 → mget ms (.i .i64 (p : Int)) = if arr.getD p 0 = (k : Int) + 1 then some () else none
/-- What stands in the groups. -/
structure GO (s : Grp) (arr : List Int) : Prop where
  len : arr.length = 10
  gk : keysOk s.gs
  g : ∀ k : Nat, k < 4 → ∃ nb ms, mget s.gs (.s (nm4 k)) = some (nb, ms) ∧ MO arr k ms
  ok : keysOk s.of
  o : ∀ p : Nat, 2 ≤ p → p < 10 → (arr.getD p 0 = 0 ∧ mget s.of (.i .i64 (p : Int)) = none) ∨ ∃ k : Nat, k < 4 ∧ arr.getD p 0 = (k : Int) + 1 ∧ mget s.of (.i .i64 (p : Int)) = some (nm4 k)
  nd : s.notes.Nodup
  nt : ∀ x ∈ s.notes, ∃ k : Nat, k < 4 ∧ x = nm4 k

theorem getD_set_of {arr : List Int} (hl : arr.length = 10) {p q : Nat} (hp : p < 10) (v : Int) : (arr.set p v).getD q 0 = if q = p then v else arr.getD q 0 := by
  rw [List.getD, List.getElem?_set]
  by_cases h : q = p
  · subst h; simp [hl, hp]
  · have : ¬ p = q := fun e => h e.symm
    simp [h, this, List.getD]
theorem set_same {arr : List Int} {p : Nat} {v : Int} (h : arr.getD p 0 = v) (hp : p < arr.length) : arr.set p v = arr := by
  refine List.ext_getElem? fun i => ?_
  rw [List.getElem?_set]
  split
  · rename_i e; subst e
    rw [← h, List.getD, List.getElem?_eq_getElem hp]; simp [hp]
  · rfl
theorem sub4 : ∀ (n : Nat) (l : List Nat), l.Nodup → (∀ x ∈ l, x < n) → l.length ≤ n
  | 0, l, _, h => by
    cases l with
    | nil => simp
    | cons x l => have := h x List.mem_cons_self; omega
  | n + 1, l, hd, h => by
    by_cases hn : n ∈ l
    · have h1 := sub4 n (l.erase n) (hd.erase n) fun x hx => by
        have h2 := (List.Nodup.mem_erase_iff hd).1 hx
        have := h x h2.2
        omega
      rw [List.length_erase_of_mem hn] at h1
      omega
    · have := sub4 n l hd fun x hx => by
        have h1 := h x hx
        have : x ≠ n := fun e => hn (e ▸ hx)
        omega
      omega
def idx4 (x : ByteArray) : Nat := names4.findIdx (fun y => sEq x y)
theorem idx4_nm : ∀ k : _root_.Fin 4, idx4 (nm4 k.1) = k.1 := by decide +kernel
theorem GO.notes_le {s : Grp} {arr : List Int} (h : GO s arr) : s.notes.length ≤ 4 := by
  have h1 := sub4 4 (s.notes.map idx4) ?_ ?_
  · simpa using h1
  · unfold List.Nodup
    rw [List.pairwise_map]
    refine List.Pairwise.imp_of_mem ?_ h.nd
    intro a b ha hb hab e
    obtain ⟨i, hi, rfl⟩ := h.nt a ha
    obtain ⟨j, hj, rfl⟩ := h.nt b hb
    rw [idx4_nm ⟨i, hi⟩, idx4_nm ⟨j, hj⟩] at e
    exact hab (by dsimp only at e; rw [e])
  · intro x hx
    obtain ⟨y, hy, rfl⟩ := List.mem_map.1 hx
    obtain ⟨i, hi, rfl⟩ := h.nt y hy
    rw [idx4_nm ⟨i, hi⟩]; exact hi
theorem GO.gok {s : Grp} {arr : List Int} (h : GO s arr) {p : Nat} (h2 : 2 ≤ p) (hp : p < 10) : gOk s (p : Int) := by
  have := h.notes_le
  refine ⟨by omega, fun n hn => ?_⟩
  rcases h.o p h2 hp with ⟨_, h1⟩ | ⟨k, hk, _, h1⟩
  · rw [h1] at hn; cases hn
  · rw [h1] at hn
    cases hn
    obtain ⟨nb, ms, hg, _⟩ := h.g k hk
    exact ⟨_, hg⟩

theorem mget_nm4 {β : Type} {es : List (Key × β)} {k j : Nat} (hk : k < 4) (hj : j < 4) (u : β) : mget (mset es (.s (nm4 k)) u) (.s (nm4 j)) = if j = k then some u else mget es (.s (nm4 j)) := by
  by_cases hjk : j = k
  · subst hjk; rw [if_pos rfl, mget_mset (keyEq_self _)]
  · rw [if_neg hjk, mget_mset_ne (by rw [nm4_key hj hk]; simp [hjk])]
theorem mget_pid {β : Type} {es : List (Key × β)} (h : keysOk es) (a b : Int) : mget (mdel es (.i .i64 a)) (.i .i64 b) = if b = a then none else mget es (.i .i64 b) := by
  by_cases hab : b = a
  · subst hab; rw [if_pos rfl, mget_mdel h]
  · rw [if_neg hab, mget_mdel_ne (by rw [key_int]; simp [hab])]
theorem mget_pidS {β : Type} {es : List (Key × β)} (a b : Int) (u : β) : mget (mset es (.i .i64 a) u) (.i .i64 b) = if b = a then some u else mget es (.i .i64 b) := by
  by_cases hab : b = a
  · subst hab; rw [if_pos rfl, mget_mset (keyEq_self _)]
  · rw [if_neg hab, mget_mset_ne (by rw [key_int]; simp [hab])]
theorem mem_mdel {β : Type} {k : Key} {e : Key × β} : ∀ {es : List (Key × β)}, e ∈ mdel es k → e ∈ es
  | [], h => by cases h
  | (k', v') :: es, h => by
    simp only [mdel] at h
    cases hq : keyEq k k' with
    | true => simp only [hq] at h; exact List.mem_cons_of_mem _ h
    | false =>
      simp only [hq] at h
      rcases List.mem_cons.1 h with rfl | h
      · exact List.mem_cons_self
      · exact List.mem_cons_of_mem _ (mem_mdel h)
theorem mem_mset {β : Type} {k : Key} {u : β} {e : Key × β} : ∀ {es : List (Key × β)}, e ∈ mset es k u → e = (k, u) ∨ e ∈ es
  | [], h => .inl (by simpa [mset] using h)
  | (k', v') :: es, h => by
    simp only [mset] at h
    cases hq : keyEq k k' with
    | true =>
      simp only [hq] at h
      rcases List.mem_cons.1 h with rfl | h
      · exact .inl rfl
      · exact .inr (List.mem_cons_of_mem _ h)
    | false =>
      simp only [hq] at h
      rcases List.mem_cons.1 h with rfl | h
      · exact .inr List.mem_cons_self
      · rcases mem_mset h with h | h
        · exact .inl h
        · exact .inr (List.mem_cons_of_mem _ h)

/-- A member leaves. -/
theorem MO.del {arr : List Int} {k : Nat} {ms : List (Key × Unit)} (h : MO arr k ms) (hl : arr.length = 10) {p : Nat} (h2 : 2 ≤ p) (hp : p < 10) : MO (arr.set p 0) k (mdel ms (.i .i64 (p : Int))) := by
  refine ⟨keysOk_mdel h.ok, fun e he => h.key e (mem_mdel he), fun q hq2 hq => ?_⟩
  rw [mget_pid h.ok, getD_set_of hl hp, h.has q hq2 hq]
  by_cases hqp : q = p
  · subst hqp; rw [if_pos rfl, if_pos rfl, if_neg (by omega)]
  · rw [if_neg (by omega), if_neg hqp]
/-- Another group's members stay. -/
theorem MO.other {arr : List Int} {k : Nat} {ms : List (Key × Unit)} (h : MO arr k ms) (hl : arr.length = 10) {p : Nat} (hp : p < 10) {v : Int} (hv : v ≠ (k : Int) + 1) (ho : arr.getD p 0 ≠ (k : Int) + 1) : MO (arr.set p v) k ms := by
  refine ⟨h.ok, h.key, fun q hq2 hq => ?_⟩
  rw [getD_set_of hl hp, h.has q hq2 hq]
  by_cases hqp : q = p
  · subst hqp; rw [if_pos rfl, if_neg ho, if_neg hv]
  · rw [if_neg hqp]
/-- A new member. -/
theorem MO.add {arr : List Int} {k : Nat} {ms : List (Key × Unit)} (h : MO arr k ms) (hl : arr.length = 10) {p : Nat} (h2 : 2 ≤ p) (hp : p < 10) : MO (arr.set p ((k : Int) + 1)) k (mset ms (.i .i64 (p : Int)) ()) := by
  refine ⟨keysOk_mset h.ok, fun e he => ?_, fun q hq2 hq => ?_⟩
  · rcases mem_mset he with rfl | he
    · exact ⟨p, ⟨h2, hp⟩, rfl⟩
    · exact h.key e he
  · rw [mget_pidS, getD_set_of hl hp, h.has q hq2 hq]
    by_cases hqp : q = p
    · subst hqp; rw [if_pos rfl, if_pos rfl, if_pos rfl]
    · rw [if_neg (by omega), if_neg hqp]

theorem GO.gone {s : Grp} {arr : List Int} (h : GO s arr) {p : Nat} (h2 : 2 ≤ p) (hp : p < 10) (ao : Option Addr) (cap : Nat) : (gGone s (p : Int) ao cap).2 = decide (arr.getD p 0 > 0) ∧ GO (gGone s (p : Int) ao cap).1 (arr.set p 0) := by
  rcases h.o p h2 hp with ⟨h0, h1⟩ | ⟨k, hk, h0, h1⟩
  · have e : gGone s (p : Int) ao cap = (s, false) := by simp only [gGone, h1]
    rw [e, h0, set_same h0 (by rw [h.len]; exact hp)]
    exact ⟨rfl, h⟩
  · obtain ⟨nb, ms, hg, hm⟩ := h.g k hk
    have main : ∀ (nt : List ByteArray) (ao : Option Addr) (cap : Nat), nt.Nodup → (∀ x ∈ nt, ∃ k : Nat, k < 4 ∧ x = nm4 k) → GO { s with of := mdel s.of (.i .i64 (p : Int)), gs := mset s.gs (.s (nm4 k)) (nb, mdel ms (.i .i64 (p : Int))), notes := nt, ao := ao, cap := cap } (arr.set p 0) := by
      intro nt ao cap hn1 hn2
      refine ⟨by simp [h.len], keysOk_mset h.gk, fun j hj => ?_, keysOk_mdel h.ok, fun q hq2 hq => ?_, hn1, hn2⟩
      · dsimp only
        rw [mget_nm4 hk hj]
        by_cases hjk : j = k
        · subst hjk
          rw [if_pos rfl]
          exact ⟨_, _, rfl, hm.del h.len h2 hp⟩
        · obtain ⟨nb', ms', hg', hm'⟩ := h.g j hj
          rw [if_neg hjk, hg']
          exact ⟨_, _, rfl, hm'.other h.len hp (by omega) (by omega)⟩
      · dsimp only
        rw [mget_pid h.ok, getD_set_of h.len hp]
        by_cases hqp : q = p
        · subst hqp; rw [if_pos rfl, if_pos rfl]; exact .inl ⟨rfl, rfl⟩
        · rw [if_neg hqp, if_neg (by omega)]
          exact h.o q hq2 hq
    have hd : decide (arr.getD p 0 > 0) = true := decide_eq_true (by rw [h0]; omega)
    rw [hd]
    unfold gGone
    simp only [h1, hg]
    cases hc : ((mdel ms (.i .i64 (p : Int))).length == 0 && !decide (idxFrom (sEq (nm4 k)) s.notes 0 ≥ 0)) with
    | true =>
      refine ⟨rfl, main _ _ _ ?_ ?_⟩
      · simp only [Bool.and_eq_true, Bool.not_eq_true', decide_eq_false_iff_not] at hc
        rw [List.nodup_append]
        refine ⟨h.nd, by simp, fun a ha b hb => ?_⟩
        simp only [List.mem_singleton] at hb
        subst hb
        rintro rfl
        apply hc.2
        have hne : ¬ idxFrom (sEq (nm4 k)) s.notes 0 = -1 := fun e => by
          have := (idxFrom_none (sEq (nm4 k)) s.notes 0 (by omega)).1 e (nm4 k) ha
          rw [nm4_eq hk hk] at this
          simp at this
        rcases idxFrom_lt (sEq (nm4 k)) s.notes 0 with h | ⟨h, _⟩
        · exact absurd h hne
        · exact h
      · intro x hx
        rcases List.mem_append.1 hx with hx | hx
        · exact h.nt x hx
        · simp only [List.mem_singleton] at hx
          exact ⟨k, hk, hx⟩
    | false => exact ⟨rfl, main s.notes s.ao s.cap h.nd h.nt⟩

theorem GO.put {s : Grp} {arr : List Int} (h : GO s arr) {p n : Nat} (h2 : 2 ≤ p) (hp : p < 10) (hn : n < 4) (ao : Option Addr) (cap : Nat) : (gPut s (p : Int) (nm4 n) ao cap).2 = 0 ∧ GO (gPut s (p : Int) (nm4 n) ao cap).1 (arr.set p ((n : Int) + 1)) := by
  obtain ⟨nb, ms, hg, hm⟩ := h.g n hn
  have hd : decide ((p : Int) < 2) = false := by simp; omega
  unfold gPut
  simp only [hg, hd, hm.has p h2 hp]
  by_cases he : arr.getD p 0 = (n : Int) + 1
  · rw [if_pos he, set_same he (by rw [h.len]; exact hp)]
    exact ⟨rfl, h⟩
  · rw [if_neg he]
    obtain ⟨_, h1⟩ := h.gone h2 hp ao cap
    generalize (gGone s (p : Int) ao cap).1 = s1 at h1
    obtain ⟨nb1, ms1, hg1, hm1⟩ := h1.g n hn
    simp only [hg1]
    refine ⟨trivial, ?_⟩
    have hss : arr.set p ((n : Int) + 1) = (arr.set p 0).set p ((n : Int) + 1) := by rw [List.set_set]
    have hz : (arr.set p 0).getD p 0 = 0 := by rw [getD_set_of h.len hp, if_pos rfl]
    rw [hss]
    refine ⟨by simp [h.len], keysOk_mset h1.gk, fun j hj => ?_, keysOk_mset h1.ok, fun q hq2 hq => ?_, h1.nd, h1.nt⟩
    · dsimp only
      rw [mget_nm4 hn hj]
      by_cases hjn : j = n
      · subst hjn
        rw [if_pos rfl]
        exact ⟨_, _, rfl, hm1.add h1.len h2 hp⟩
      · obtain ⟨nb', ms', hg', hm'⟩ := h1.g j hj
        rw [if_neg hjn, hg']
        exact ⟨_, _, rfl, hm'.other h1.len hp (by omega) (by rw [hz]; omega)⟩
    · dsimp only
      rw [mget_pidS, getD_set_of h1.len hp]
      by_cases hqp : q = p
      · subst hqp; rw [if_pos rfl, if_pos rfl]; exact .inr ⟨n, hn, rfl, rfl⟩
      · rw [if_neg hqp, if_neg (by omega)]
        exact h1.o q hq2 hq

/-- What the array says of a group. -/
def wantL (arr : List Int) (k : Nat) : Nat → List Int
  | 0 => []
  | q + 1 => wantL arr k q ++ if arr.getD (q + 2) 0 = (k : Int) + 1 then [((q + 2 : Nat) : Int)] else []
theorem wantL_mem (arr : List Int) (k : Nat) (x : Int) : ∀ q : Nat, x ∈ wantL arr k q ↔ ∃ p : Nat, 2 ≤ p ∧ p < q + 2 ∧ x = (p : Int) ∧ arr.getD p 0 = (k : Int) + 1
  | 0 => by simp [wantL]; intros; omega
  | q + 1 => by
    rw [wantL, List.mem_append, wantL_mem arr k x q]
    constructor
    · rintro (⟨p, a, b, c, d⟩ | h)
      · exact ⟨p, a, by omega, c, d⟩
      · split at h
        · rename_i hc
          simp only [List.mem_singleton] at h
          exact ⟨q + 2, by omega, by omega, h, hc⟩
        · cases h
    · rintro ⟨p, a, b, c, d⟩
      by_cases hp : p = q + 2
      · subst hp
        right; rw [if_pos d]; simp [c]
      · exact .inl ⟨p, a, by omega, c, d⟩
theorem wantL_asc (arr : List Int) (k : Nat) : ∀ q : Nat, (wantL arr k q).Pairwise (· < ·)
  | 0 => List.Pairwise.nil
  | q + 1 => by
    rw [wantL, List.pairwise_append]
    refine ⟨wantL_asc arr k q, by split <;> simp, fun a ha b hb => ?_⟩
    obtain ⟨p, h1, h2, rfl, _⟩ := (wantL_mem arr k a q).1 ha
    split at hb
    · simp only [List.mem_singleton] at hb; subst hb; omega
    · cases hb
theorem GO.members {s : Grp} {arr : List Int} (h : GO s arr) {k : Nat} (hk : k < 4) : ∃ nb ms, mget s.gs (.s (nm4 k)) = some (nb, ms) ∧ wfI ms ∧ sortI ms = wantL arr k 8 := by
  obtain ⟨nb, ms, hg, hm⟩ := h.g k hk
  have hnd : (ms.map fun e => keyInt e.1).Nodup := by
    unfold List.Nodup
    rw [List.pairwise_map]
    refine List.Pairwise.imp_of_mem ?_ hm.ok
    intro a b ha hb hab e
    obtain ⟨p, _, e1⟩ := hm.key a ha
    obtain ⟨q, _, e2⟩ := hm.key b hb
    rw [e1, e2] at hab e
    rw [key_int] at hab
    simp only [keyInt] at e
    simp at hab
    omega
  have hperm : (ms.map fun e => keyInt e.1).Perm (wantL arr k 8) := by
    refine (List.perm_ext_iff_of_nodup hnd ((wantL_asc arr k 8).imp (by intro a b h; omega))).2 fun x => ?_
    rw [wantL_mem]
    constructor
    · intro hx
      obtain ⟨e, he, rfl⟩ := List.mem_map.1 hx
      obtain ⟨p, ⟨q1, q2⟩, e1⟩ := hm.key e he
      refine ⟨p, q1, by omega, by rw [e1]; rfl, ?_⟩
      have h1 : mget ms e.1 = some e.2 := mget_of_mem hm.ok he
      rw [e1, hm.has p q1 q2] at h1
      split at h1
      · assumption
      · cases h1
    · rintro ⟨p, q1, q2, rfl, q3⟩
      have h1 := hm.has p q1 (by omega)
      rw [if_pos q3] at h1
      obtain ⟨k', h2, h3⟩ := mget_mem h1
      refine List.mem_map.2 ⟨(k', ()), h2, ?_⟩
      obtain ⟨p', _, e1⟩ := hm.key _ h2
      dsimp only at e1
      rw [e1, key_int] at h3
      dsimp only
      rw [e1]
      simp only [keyInt]
      have : (p : Int) = p' := by simpa using h3
      omega
  have hsort : sortI ms = wantL arr k 8 := by
    unfold sortI
    rw [mergeSort_of_perm_i hperm]
    refine List.mergeSort_of_pairwise ?_
    exact (wantL_asc arr k 8).imp fun {x y} h => by simp [leI]; omega
  have hlen : ms.length ≤ 8 := by
    have h1 := sub4 8 ((ms.map fun e => keyInt e.1).map fun x => x.toNat - 2) ?_ ?_
    · simpa using h1
    · unfold List.Nodup
      rw [List.pairwise_map]
      refine List.Pairwise.imp_of_mem ?_ hnd
      intro a b ha hb hab e
      obtain ⟨p, q1, q2, rfl, _⟩ := (wantL_mem arr k a 8).1 (hperm.mem_iff.1 ha)
      obtain ⟨q, q3, q4, rfl, _⟩ := (wantL_mem arr k b 8).1 (hperm.mem_iff.1 hb)
      omega
    · intro x hx
      obtain ⟨a, ha, rfl⟩ := List.mem_map.1 hx
      obtain ⟨p, q1, q2, rfl, _⟩ := (wantL_mem arr k a 8).1 (hperm.mem_iff.1 ha)
      omega
  refine ⟨nb, ms, hg, ⟨hm.ok, by omega, fun e he => ?_⟩, hsort⟩
  obtain ⟨p, ⟨q1, q2⟩, e1⟩ := hm.key e he
  rw [e1]
  simp only [keyInt, Lit.wf, Bool.and_eq_true, decide_eq_true_eq]
  constructor
  · exact decide_eq_true (show (-9223372036854775808 : Int) ≤ _ by omega)
  · exact decide_eq_true (show _ ≤ (9223372036854775807 : Int) by omega)
end Go.Proofs.YtkcmgcoppecfpaaGreat

/- YtkcmgcoppecfpaaGreatGpP -/
/- GroupPlays: the groups and the document's groups go together (plain law). -/
namespace Go.Proofs.YtkcmgcoppecfpaaGreat
open Go Go.RowKit Go.Maps Go.Sort Go.Shelf
set_option linter.unusedVariables false
set_option linter.unusedSimpArgs false
set_option linter.unnecessarySimpa false
set_option maxHeartbeats 0

/-! ### Texts by their order -/
theorem toListG (x : ByteArray) : x.toList = x.data.toList := ByteArray.toList_eq x
theorem baExt {a b : ByteArray} (h : a.data.toList = b.data.toList) : a = b := by
  cases a; cases b
  simp only [ByteArray.mk.injEq]
  exact Array.ext' h
theorem sEqG (a b : ByteArray) : sEq a b = true ↔ a = b := by
  constructor
  · intro h
    simp only [sEq, beq_iff_eq] at h
    rw [toListG, toListG] at h
    exact baExt h
  · rintro rfl; simp [sEq]
theorem sEqGF (a b : ByteArray) : sEq a b = false ↔ a ≠ b := by rw [← Bool.not_eq_true, sEqG]
theorem bLess : ∀ (x y : List UInt8), Op.bytesLess x y = decide (x < y)
  | [], [] => by simp [Op.bytesLess]
  | _ :: _, [] => by simp [Op.bytesLess]
  | [], _ :: _ => by simp [Op.bytesLess]
  | a :: x, b :: y => by
    rw [Op.bytesLess, bLess x y, Bool.eq_iff_iff]
    simp [List.cons_lt_cons_iff]
theorem sLtG (a b : ByteArray) : sLt a b = decide (a.data.toList < b.data.toList) := by rw [sLt, bLess, toListG, toListG]
theorem sLt_irr (a : ByteArray) : sLt a a = false := by rw [sLtG]; simp [List.lt_irrefl]
theorem sLt_trans {a b c : ByteArray} (h1 : sLt a b = true) (h2 : sLt b c = true) : sLt a c = true := by
  rw [sLtG, decide_eq_true_eq] at *
  exact List.lt_trans h1 h2
theorem sLt_asymm {a b : ByteArray} (h1 : sLt a b = true) : sLt b a = false := by
  cases h : sLt b a with
  | false => rfl
  | true => have := sLt_trans h1 h; rw [sLt_irr] at this; cases this
theorem sLt_tri {a b : ByteArray} (h1 : sLt a b = false) (h2 : sLt b a = false) : a = b := by
  rw [sLtG, decide_eq_false_iff_not] at *
  exact baExt (List.le_antisymm (List.not_lt.1 h2) (List.not_lt.1 h1))
theorem keyS (a b : ByteArray) : keyEq (.s a) (.s b) = decide (a = b) := by
  rw [Bool.eq_iff_iff, decide_eq_true_eq]
  simp only [keyEq]
  exact bytes_beq _ _
theorem mget_str {β : Type} {es : List (Key × β)} (a b : ByteArray) (u : β) : mget (mset es (.s a) u) (.s b) = if b = a then some u else mget es (.s b) := by
  by_cases hab : b = a
  · subst hab; rw [if_pos rfl, mget_mset (keyEq_self _)]
  · rw [if_neg hab, mget_mset_ne (by rw [keyS]; simp [hab])]
theorem mget_strD {β : Type} {es : List (Key × β)} (h : keysOk es) (a b : ByteArray) : mget (mdel es (.s a)) (.s b) = if b = a then none else mget es (.s b) := by
  by_cases hab : b = a
  · subst hab; rw [if_pos rfl, mget_mdel h]
  · rw [if_neg hab, mget_mdel_ne (by rw [keyS]; simp [hab])]

/-! ### Where a name stands -/
def AscN (L : List RGrp) : Prop := L.Pairwise fun a b => sLt a.name b.name = true
theorem rAt_parts (L : List RGrp) (n : ByteArray) : L.take (rAt L n) = L.takeWhile (fun g => sLt g.name n) ∧ L.drop (rAt L n) = L.dropWhile (fun g => sLt g.name n) := by
  have h1 : L.take (rAt L n) = L.takeWhile (fun g => sLt g.name n) := (List.prefix_iff_eq_take.1 (List.takeWhile_prefix _)).symm
  refine ⟨h1, ?_⟩
  have h2 := List.take_append_drop (rAt L n) L
  have h3 := List.takeWhile_append_dropWhile (p := fun g : RGrp => sLt g.name n) (l := L)
  rw [h1] at h2
  exact List.append_cancel_left (h2.trans h3.symm)
theorem tw_all {L : List RGrp} {n : ByteArray} : ∀ g ∈ L.takeWhile (fun g => sLt g.name n), sLt g.name n = true := fun g hg => by
  have h1 : (L.takeWhile fun g => sLt g.name n).all (fun g => sLt g.name n) = true := List.all_takeWhile
  exact List.all_eq_true.1 h1 g hg
theorem dw_ge {n : ByteArray} : ∀ {L : List RGrp}, AscN L → ∀ g ∈ L.dropWhile (fun g => sLt g.name n), sLt g.name n = false
  | [], _, g, h => by cases h
  | x :: L, ha, g, h => by
    rw [List.dropWhile_cons] at h
    split at h
    · exact dw_ge (List.pairwise_cons.1 ha).2 g h
    · rename_i hc
      have hx : sLt x.name n = false := by simpa using hc
      rcases List.mem_cons.1 h with rfl | h
      · exact hx
      · have h1 := (List.pairwise_cons.1 ha).1 g h
        cases hq : sLt g.name n with
        | false => rfl
        | true => rw [sLt_trans h1 hq] at hx; cases hx
theorem rHas_split {L : List RGrp} {n : ByteArray} (ha : AscN L) (h : rHas L n = true) : ∃ L1 g L2, L = L1 ++ g :: L2 ∧ rAt L n = L1.length ∧ g.name = n ∧ (∀ x ∈ L1, x.name ≠ n) ∧ ∀ x ∈ L2, x.name ≠ n := by
  obtain ⟨p1, p2⟩ := rAt_parts L n
  unfold rHas at h
  simp only [Bool.and_eq_true, decide_eq_true_eq] at h
  obtain ⟨h1, h2⟩ := h
  have h3 : L.getD (rAt L n) zR = L[rAt L n] := by simp [List.getD, h1]
  rw [h3, sEqG] at h2
  refine ⟨L.take (rAt L n), L[rAt L n], L.drop (rAt L n + 1), ?_, by simp; omega, h2, fun x hx e => ?_, fun x hx e => ?_⟩
  · rw [List.getElem_cons_drop, List.take_append_drop]
  · rw [p1] at hx
    have := tw_all x hx
    rw [e, sLt_irr] at this; cases this
  · have hd : L.drop (rAt L n) = L[rAt L n] :: L.drop (rAt L n + 1) := (List.getElem_cons_drop h1).symm
    have hp : AscN (L.drop (rAt L n)) := List.Pairwise.sublist (List.drop_sublist _ _) ha
    rw [hd] at hp
    have := (List.pairwise_cons.1 hp).1 x hx
    rw [h2, e, sLt_irr] at this; cases this
theorem rHas_none {L : List RGrp} {n : ByteArray} (ha : AscN L) (h : rHas L n = false) : ∀ g ∈ L, g.name ≠ n := by
  intro g hg e
  obtain ⟨p1, p2⟩ := rAt_parts L n
  rw [← List.take_append_drop (rAt L n) L] at hg
  rcases List.mem_append.1 hg with hg | hg
  · rw [p1] at hg
    have := tw_all g hg
    rw [e, sLt_irr] at this; cases this
  · have hlt : rAt L n < L.length := by
      have := List.length_pos_of_mem hg
      simp at this; omega
    have hd : L.drop (rAt L n) = L[rAt L n] :: L.drop (rAt L n + 1) := (List.getElem_cons_drop hlt).symm
    have h3 : L.getD (rAt L n) zR = L[rAt L n] := by simp [List.getD, hlt]
    unfold rHas at h
    rw [decide_eq_true hlt, h3, Bool.true_and, sEqGF] at h
    have hge := dw_ge (n := n) ha
    rw [← p2] at hge
    have hf := hge L[rAt L n] (by rw [hd]; exact List.mem_cons_self)
    have hp : AscN (L.drop (rAt L n)) := List.Pairwise.sublist (List.drop_sublist _ _) ha
    rw [hd] at hg hp
    rcases List.mem_cons.1 hg with hg | hg
    · rw [hg] at e; exact h e
    · have h4 := (List.pairwise_cons.1 hp).1 g hg
      rw [e, hf] at h4; cases h4
theorem rHas_iff {L : List RGrp} {n : ByteArray} (ha : AscN L) : rHas L n = true ↔ ∃ g ∈ L, g.name = n := by
  constructor
  · intro h
    obtain ⟨L1, g, L2, rfl, _, e, _⟩ := rHas_split ha h
    exact ⟨g, by simp, e⟩
  · rintro ⟨g, hg, e⟩
    cases h : rHas L n with
    | true => rfl
    | false => exact absurd e (rHas_none ha h g hg)
theorem asc_uniq {L : List RGrp} (ha : AscN L) {g g' : RGrp} (h : g ∈ L) (h' : g' ∈ L) (e : g.name = g'.name) : g = g' := by
  induction L with
  | nil => cases h
  | cons x L ih =>
    have hc := List.pairwise_cons.1 ha
    rcases List.mem_cons.1 h with h1 | h1
    · rcases List.mem_cons.1 h' with h2 | h2
      · rw [h1, h2]
      · have := hc.1 g' h2
        rw [← h1, e, sLt_irr] at this; cases this
    · rcases List.mem_cons.1 h' with h2 | h2
      · have := hc.1 g h1
        rw [← h2, e, sLt_irr] at this; cases this
      · exact ih hc.2 h1 h2

/-! ### Members -/
structure MS (l : List Int) (ms : List (Key × Unit)) : Prop where
  ok : keysOk ms
  kd : ∀ e ∈ ms, ∃ p : Int, e.1 = .i .i64 p
  mem : ∀ p : Int, (∃ u, mget ms (.i .i64 p) = some u) ↔ p ∈ l
  asc : l.Pairwise (· < ·)
theorem MS.perm {l : List Int} {ms : List (Key × Unit)} (h : MS l ms) : (ms.map fun e => keyInt e.1).Perm l := by
  have hnd : (ms.map fun e => keyInt e.1).Nodup := by
    unfold List.Nodup
    rw [List.pairwise_map]
    refine List.Pairwise.imp_of_mem ?_ h.ok
    intro a b ha hb hab e
    obtain ⟨p, e1⟩ := h.kd a ha
    obtain ⟨q, e2⟩ := h.kd b hb
    rw [e1, e2, key_int] at hab
    rw [e1, e2] at e
    simp only [keyInt] at e
    simp [e] at hab
  refine (List.perm_ext_iff_of_nodup hnd (h.asc.imp (by intro a b h; omega))).2 fun x => ?_
  rw [← h.mem]
  constructor
  · intro hx
    obtain ⟨e, he, rfl⟩ := List.mem_map.1 hx
    obtain ⟨p, e1⟩ := h.kd e he
    refine ⟨e.2, ?_⟩
    rw [e1]
    simp only [keyInt]
    rw [← e1]
    exact mget_of_mem h.ok he
  · rintro ⟨u, hu⟩
    obtain ⟨k', h2, h3⟩ := mget_mem hu
    refine List.mem_map.2 ⟨(k', u), h2, ?_⟩
    obtain ⟨p', e1⟩ := h.kd _ h2
    dsimp only at e1
    rw [e1, key_int] at h3
    dsimp only
    rw [e1]
    simp only [keyInt]
    simpa [eq_comm] using h3
theorem MS.sort {l : List Int} {ms : List (Key × Unit)} (h : MS l ms) : sortI ms = l := by
  unfold sortI
  rw [mergeSort_of_perm_i h.perm]
  refine List.mergeSort_of_pairwise ?_
  exact h.asc.imp fun {x y} h => by simp [leI]; omega
theorem MS.len {l : List Int} {ms : List (Key × Unit)} (h : MS l ms) : ms.length = l.length := by
  have := h.perm.length_eq
  simpa using this
theorem MS.del {l : List Int} {ms : List (Key × Unit)} (h : MS l ms) (p : Int) : MS (l.filter fun q => q != p) (mdel ms (.i .i64 p)) := by
  refine ⟨keysOk_mdel h.ok, fun e he => h.kd e (mem_mdel he), fun q => ?_, h.asc.sublist List.filter_sublist⟩
  rw [mget_pid h.ok, List.mem_filter, ← h.mem]
  by_cases hq : q = p
  · subst hq; simp
  · rw [if_neg hq]; simp [hq]
theorem insI_asc {l : List Int} (h : l.Pairwise (· < ·)) {p : Int} (hp : p ∉ l) : (insI l p).Pairwise (· < ·) := by
  have hd : ∀ {l : List Int}, l.Pairwise (· < ·) → ∀ y ∈ l.dropWhile (fun x => decide (x < p)), p ≤ y := by
    intro l
    induction l with
    | nil => intro _ y hy; cases hy
    | cons x l ih =>
      intro h y hy
      rw [List.dropWhile_cons] at hy
      split at hy
      · exact ih (List.pairwise_cons.1 h).2 y hy
      · rename_i hc
        have hx : p ≤ x := by simpa using hc
        rcases List.mem_cons.1 hy with rfl | hy
        · exact hx
        · have := (List.pairwise_cons.1 h).1 y hy
          omega
  have ht : ∀ y ∈ l.takeWhile (fun x => decide (x < p)), y < p := fun y hy => by
    have h1 : (l.takeWhile fun x => decide (x < p)).all (fun x => decide (x < p)) = true := List.all_takeWhile
    simpa using List.all_eq_true.1 h1 y hy
  have hd2 : ∀ y ∈ l.dropWhile (fun x => decide (x < p)), p < y := fun y hy => by
    have h1 := hd h y hy
    have h2 : y ≠ p := fun e => hp (e ▸ (List.dropWhile_suffix _).subset hy)
    omega
  unfold insI
  refine List.pairwise_append.2 ⟨h.sublist (List.takeWhile_sublist _), List.pairwise_cons.2 ⟨hd2, h.sublist (List.dropWhile_sublist _)⟩, fun a ha b hb => ?_⟩
  rcases List.mem_cons.1 hb with rfl | hb
  · exact ht a ha
  · have h1 := ht a ha
    have h2 := hd2 b hb
    omega
theorem mem_insI {l : List Int} {p q : Int} : q ∈ insI l p ↔ q = p ∨ q ∈ l := by
  unfold insI
  have h3 := List.takeWhile_append_dropWhile (p := fun x : Int => decide (x < p)) (l := l)
  rw [List.mem_append, List.mem_cons]
  constructor
  · rintro (h | h | h)
    · exact .inr ((List.takeWhile_prefix _).subset h)
    · exact .inl h
    · exact .inr ((List.dropWhile_suffix _).subset h)
  · rintro (h | h)
    · exact .inr (.inl h)
    · rw [← h3] at h
      rcases List.mem_append.1 h with h | h
      · exact .inl h
      · exact .inr (.inr h)
theorem insI_len (l : List Int) (p : Int) : (insI l p).length = l.length + 1 := by
  have := congrArg List.length (List.takeWhile_append_dropWhile (p := fun x : Int => decide (x < p)) (l := l))
  unfold insI
  simp only [List.length_append, List.length_cons] at this ⊢
  omega
theorem MS.ins {l : List Int} {ms : List (Key × Unit)} (h : MS l ms) {p : Int} (hp : p ∉ l) : MS (insI l p) (mset ms (.i .i64 p) ()) := by
  refine ⟨keysOk_mset h.ok, fun e he => ?_, fun q => ?_, insI_asc h.asc hp⟩
  · rcases mem_mset he with rfl | he
    · exact ⟨p, rfl⟩
    · exact h.kd e he
  · rw [mget_pidS, mem_insI, ← h.mem]
    by_cases hq : q = p
    · subst hq; simp
    · rw [if_neg hq]; simp [hq]

/-! ### The groups and the document's -/
structure GL (s : Grp) (r : RG) (k : Nat) : Prop where
  asc : AscN r.L
  ex : ∀ g ∈ r.L, ∃ x, mget s.gs (.s g.name) = some x ∧ MS g.pids x.2
  on : ∀ n x, mget s.gs (.s n) = some x → ∃ g ∈ r.L, g.name = n
  big : ∀ g ∈ r.L, g.name.size ≤ 100 ∧ g.pids.length ≤ k ∧ ∀ p ∈ g.pids, (Lit.int .i64 p).wf = true
  gk : keysOk s.gs
  kd : ∀ e ∈ s.gs, keyKind e.1 = none
  ofk : keysOk s.of
  of : ∀ p n, mget s.of (.i .i64 p) = some n ↔ ∃ g ∈ r.L, g.name = n ∧ p ∈ g.pids
  nt : s.notes = r.notes
  nd : ∀ n ∈ r.notes, ∃ g ∈ r.L, g.name = n
  lens : r.L.length ≤ k ∧ r.notes.length ≤ k
theorem GL.uniq {s : Grp} {r : RG} {k : Nat} (h : GL s r k) {g g' : RGrp} {p : Int} (hg : g ∈ r.L) (hg' : g' ∈ r.L) (hp : p ∈ g.pids) (hp' : p ∈ g'.pids) : g = g' := by
  have h1 := (h.of p g.name).2 ⟨g, hg, rfl, hp⟩
  have h2 := (h.of p g'.name).2 ⟨g', hg', rfl, hp'⟩
  rw [h1] at h2
  exact asc_uniq h.asc hg hg' (Option.some.inj h2)
theorem GL.rof {s : Grp} {r : RG} {k : Nat} (h : GL s r k) (p : Int) : rOf r.L p = mget s.of (.i .i64 p) := by
  unfold rOf
  cases hf : r.L.find? (fun g => g.pids.contains p) with
  | none =>
    rw [List.find?_eq_none] at hf
    cases hm : mget s.of (.i .i64 p) with
    | none => rfl
    | some n =>
      obtain ⟨g, hg, _, hp⟩ := (h.of p n).1 hm
      exact absurd (List.contains_iff_mem.2 hp) (hf g hg)
  | some g =>
    have h1 := List.mem_of_find?_eq_some hf
    have h2 := List.find?_some hf
    exact ((h.of p g.name).2 ⟨g, h1, rfl, List.contains_iff_mem.1 h2⟩).symm
theorem GL.has {s : Grp} {r : RG} {k : Nat} (h : GL s r k) (n : ByteArray) : rHas r.L n = (mget s.gs (.s n)).isSome := by
  rw [Bool.eq_iff_iff, rHas_iff h.asc, Option.isSome_iff_exists]
  constructor
  · rintro ⟨g, hg, rfl⟩
    obtain ⟨x, hx, _⟩ := h.ex g hg
    exact ⟨x, hx⟩
  · rintro ⟨x, hx⟩
    exact h.on n x hx
theorem GL.rok {s : Grp} {r : RG} {k : Nat} (h : GL s r k) (hk : k ≤ 1000) : rOk r := ⟨by have := h.lens; omega, by have := h.lens; omega, fun g hg => by have := (h.big g hg).2.1; omega⟩
theorem GL.ratok {s : Grp} {r : RG} {k : Nat} (h : GL s r k) (p : Int) : rAtOk r.L p := by
  intro n hn
  rw [h.rof p] at hn
  obtain ⟨g, hg, e, _⟩ := (h.of p n).1 hn
  exact (rHas_iff h.asc).2 ⟨g, hg, e⟩
theorem GL.gok {s : Grp} {r : RG} {k : Nat} (h : GL s r k) (hk : k ≤ 1000) (p : Int) : gOk s p := by
  refine ⟨by rw [h.nt]; have := h.lens; omega, fun n hn => ?_⟩
  obtain ⟨g, hg, rfl, _⟩ := (h.of p n).1 hn
  obtain ⟨x, hx, _⟩ := h.ex g hg
  exact ⟨x, hx⟩
theorem GL.empty (bg bo : Nat) : GL ⟨bg, bo, none, 0, [], [], []⟩ ⟨none, 0, [], none, 0, []⟩ 0 := by
  refine ⟨List.Pairwise.nil, ?_, ?_, ?_, List.Pairwise.nil, ?_, List.Pairwise.nil, ?_, rfl, ?_, by simp⟩ <;> simp [mget]
/-- What a group's block is called, and where the rows lie, is of no account. -/
theorem GL.of_same {s : Grp} {r : RG} {k k' : Nat} (h : GL s r k) (hk : k ≤ k') (a : Option Addr) (c : Nat) (aoL : Option Addr) (capL : Nat) (aoN : Option Addr) (capN : Nat) : GL { s with ao := a, cap := c } { r with aoL := aoL, capL := capL, aoN := aoN, capN := capN } k' :=
  ⟨h.asc, h.ex, h.on, fun g hg => ⟨(h.big g hg).1, by have := (h.big g hg).2.1; omega, (h.big g hg).2.2⟩, h.gk, h.kd, h.ofk, h.of, h.nt, h.nd, by have := h.lens; dsimp only; omega⟩
theorem GL.mono {s : Grp} {r : RG} {k k' : Nat} (h : GL s r k) (hk : k ≤ k') : GL s r k' := h.of_same hk s.ao s.cap r.aoL r.capL r.aoN r.capN

/-- Another row of members for one group. -/
theorem GL.upd {s : Grp} {r : RG} {k k' : Nat} (h : GL s r k) (hk : k ≤ k') {L1 L2 : List RGrp} {g : RGrp} (hs : r.L = L1 ++ g :: L2) {x : GSet} (hx : mget s.gs (.s g.name) = some x) {l : List Int} {ms : List (Key × Unit)} (hm : MS l ms)
    (hl : l.length ≤ k' ∧ ∀ p ∈ l, (Lit.int .i64 p).wf = true) {of' : List (Key × ByteArray)} (hofk : keysOk of') (hof : ∀ p n, mget of' (.i .i64 p) = some n ↔ (∃ g' ∈ L1 ++ L2, g'.name = n ∧ p ∈ g'.pids) ∨ (g.name = n ∧ p ∈ l))
    {nt : List ByteArray} (hnd : ∀ n ∈ nt, ∃ g ∈ r.L, g.name = n) (hnl : nt.length ≤ k') (ao ao' : Option Addr) (cap cap' : Nat) (aoN : Option Addr) (capN : Nat) (aoG : Option Addr) (capG : Nat) :
    GL { s with gs := mset s.gs (.s g.name) (x.1, ms), of := of', notes := nt, ao := ao, cap := cap } { r with L := L1 ++ { g with pids := l, ao := aoG, cap := capG } :: L2, notes := nt, aoN := aoN, capN := capN } k' := by
  have hmem : ∀ y, y ∈ L1 ++ { g with pids := l, ao := aoG, cap := capG } :: L2 ↔ y = { g with pids := l, ao := aoG, cap := capG } ∨ y ∈ L1 ++ L2 := fun y => by simp [or_left_comm]
  have hold : ∀ y ∈ L1 ++ L2, y ∈ r.L := fun y hy => by rw [hs]; simp at hy ⊢; rcases hy with h | h <;> simp [h]
  have hga : g ∈ r.L := by rw [hs]; simp
  have hne : ∀ y ∈ L1 ++ L2, y.name ≠ g.name := fun y hy e => by
    have ha := h.asc
    rw [hs] at ha
    have h1 := List.pairwise_append.1 ha
    rcases List.mem_append.1 hy with hy | hy
    · have := h1.2.2 y hy g List.mem_cons_self
      rw [e, sLt_irr] at this; cases this
    · have := (List.pairwise_cons.1 h1.2.1).1 y hy
      rw [e, sLt_irr] at this; cases this
  refine ⟨?_, fun y hy => ?_, fun n z hz => ?_, fun y hy => ?_, keysOk_mset h.gk, fun e he => ?_, hofk, fun p n => ?_, rfl, fun n hn => ?_, ?_⟩
  · have ha := h.asc
    unfold AscN at ha ⊢
    rw [hs] at ha
    simp only [List.pairwise_append, List.pairwise_cons, List.mem_cons, forall_eq_or_imp] at ha ⊢
    exact ha
  · rcases (hmem y).1 hy with rfl | hy
    · exact ⟨(x.1, ms), by dsimp only; rw [mget_str, if_pos rfl], hm⟩
    · obtain ⟨z, hz, hzm⟩ := h.ex y (hold y hy)
      exact ⟨z, by dsimp only; rw [mget_str, if_neg (hne y hy)]; exact hz, hzm⟩
  · dsimp only at hz ⊢
    rw [mget_str] at hz
    by_cases hn : n = g.name
    · exact ⟨_, (hmem _).2 (.inl rfl), hn.symm⟩
    · rw [if_neg hn] at hz
      obtain ⟨y, hy, e⟩ := h.on n z hz
      refine ⟨y, (hmem y).2 (.inr ?_), e⟩
      rw [hs] at hy
      simp only [List.mem_append, List.mem_cons] at hy ⊢
      rcases hy with hy | rfl | hy
      · exact .inl hy
      · exact absurd e.symm hn
      · exact .inr hy
  · rcases (hmem y).1 hy with rfl | hy
    · exact ⟨(h.big g hga).1, hl⟩
    · have := h.big y (hold y hy)
      exact ⟨this.1, by omega, this.2.2⟩
  · rcases mem_mset he with rfl | he
    · rfl
    · exact h.kd e he
  · dsimp only
    rw [hof p n]
    constructor
    · rintro (⟨y, hy, e⟩ | ⟨e, hp⟩)
      · exact ⟨y, (hmem y).2 (.inr hy), e⟩
      · exact ⟨_, (hmem _).2 (.inl rfl), e, hp⟩
    · rintro ⟨y, hy, e, hp⟩
      rcases (hmem y).1 hy with rfl | hy
      · exact .inr ⟨e, hp⟩
      · exact .inl ⟨y, hy, e, hp⟩
  · obtain ⟨y, hy, e⟩ := hnd n hn
    dsimp only
    rw [hs] at hy
    simp only [List.mem_append, List.mem_cons] at hy
    rcases hy with hy | rfl | hy
    · exact ⟨y, by simp [hy], e⟩
    · exact ⟨_, (hmem _).2 (.inl rfl), e⟩
    · exact ⟨y, by simp [hy], e⟩
  · have h1 := h.lens.1
    rw [hs] at h1
    simp only [List.length_append, List.length_cons] at h1 ⊢
    exact ⟨by omega, hnl⟩

theorem any_note {l : List ByteArray} (n : ByteArray) : decide (idxFrom (sEq n) l 0 ≥ 0) = l.any fun x => sEq x n := by
  cases hc : l.any fun x => sEq x n with
  | false =>
    rw [List.any_eq_false] at hc
    have h1 := (idxFrom_none (sEq n) l 0 (by omega)).2 fun x hx => by
      have := hc x hx
      rw [Bool.not_eq_true, sEqGF] at this
      rw [sEqGF]
      exact fun e => this e.symm
    rw [h1]; rfl
  | true =>
    obtain ⟨x, hx, he⟩ := List.any_eq_true.1 hc
    rw [sEqG] at he
    subst he
    have hne : ¬ idxFrom (sEq x) l 0 = -1 := fun e => by
      have := (idxFrom_none (sEq x) l 0 (by omega)).1 e x hx
      rw [sEqGF] at this
      exact this rfl
    rcases idxFrom_lt (sEq x) l 0 with h | ⟨h, _⟩
    · exact absurd h hne
    · exact decide_eq_true h
theorem rSet_split {L1 L2 : List RGrp} {g : RGrp} (l : List Int) (ao : Option Addr) (cap : Nat) : rSet (L1 ++ g :: L2) L1.length l ao cap = L1 ++ { g with pids := l, ao := ao, cap := cap } :: L2 ∧ (L1 ++ g :: L2).getD L1.length zR = g := by
  have h1 : (L1 ++ g :: L2).getD L1.length zR = g := by simp [List.getD]
  refine ⟨?_, h1⟩
  unfold rSet
  rw [h1, List.set_append_right _ _ (Nat.le_refl _)]
  simp

/-- A group leaves that has no members. -/
theorem GL.gone {s : Grp} {r : RG} {k : Nat} (h : GL s r k) (p : Int) (ao : Option Addr) (cap : Nat) (aoG : Option Addr) (capG : Nat) (aoN : Option Addr) (capN : Nat) :
    (gGone s p ao cap).2 = (rGone r p aoG capG aoN capN).2 ∧ GL (gGone s p ao cap).1 (rGone r p aoG capG aoN capN).1 (k + 1) ∧ ((gGone s p ao cap).2 = true → ∀ n, mget (gGone s p ao cap).1.of (.i .i64 p) ≠ some n) ∧ (∀ g ∈ (rGone r p aoG capG aoN capN).1.L, g.pids.length ≤ k) := by
  unfold gGone rGone
  rw [h.rof p]
  cases hm : mget s.of (.i .i64 p) with
  | none => exact ⟨rfl, h.mono (Nat.le_succ k), (fun e => by cases e), fun g hg => (h.big g hg).2.1⟩
  | some n =>
    obtain ⟨g0, hg0, rfl, hp0⟩ := (h.of p n).1 hm
    have hh : rHas r.L g0.name = true := (rHas_iff h.asc).2 ⟨g0, hg0, rfl⟩
    obtain ⟨L1, g, L2, hs, hat, hn, hn1, hn2⟩ := rHas_split h.asc hh
    have hgm : g ∈ r.L := by rw [hs]; simp
    have hge : g0 = g := asc_uniq h.asc hg0 hgm hn.symm
    subst hge
    obtain ⟨x, hx, hms⟩ := h.ex g0 hgm
    obtain ⟨e1, e2⟩ := rSet_split (L1 := L1) (L2 := L2) (g := g0) (g0.pids.filter fun q => q != p) aoG capG
    have hgd : r.L.getD (rAt r.L g0.name) zR = g0 := by rw [hat, hs, e2]
    have hrs : rSet r.L (rAt r.L g0.name) (g0.pids.filter fun q => q != p) aoG capG = L1 ++ { g0 with pids := g0.pids.filter fun q => q != p, ao := aoG, cap := capG } :: L2 := by rw [hat, hs, e1]
    simp only [hx, hgd, hrs]
    have hms' := hms.del p
    have hlen : ((mdel x.2 (.i .i64 p)).length == 0) = ((g0.pids.filter fun q => q != p).length == 0) := by rw [hms'.len]
    rw [hlen, any_note, h.nt]
    have hfl := List.length_filter_le (fun q => q != p) g0.pids
    have hb := h.big g0 hgm
    have other : ∀ y ∈ L1 ++ L2, p ∉ y.pids := fun y hy hpy => by
      have hy' : y ∈ r.L := by rw [hs]; simp at hy ⊢; rcases hy with h | h <;> simp [h]
      have := h.uniq hy' hgm hpy hp0
      subst this
      rcases List.mem_append.1 hy with h1 | h1
      · exact hn1 _ h1 rfl
      · exact hn2 _ h1 rfl
    have main : ∀ (nt : List ByteArray) (ao : Option Addr) (cap : Nat) (aoN : Option Addr) (capN : Nat), (∀ n ∈ nt, ∃ g ∈ r.L, g.name = n) → nt.length ≤ k + 1 →
        GL { s with gs := mset s.gs (.s g0.name) (x.1, mdel x.2 (.i .i64 p)), of := mdel s.of (.i .i64 p), notes := nt, ao := ao, cap := cap } { r with L := L1 ++ { g0 with pids := g0.pids.filter fun q => q != p, ao := aoG, cap := capG } :: L2, notes := nt, aoN := aoN, capN := capN } (k + 1) := fun nt ao cap aoN capN q1 q2 =>
      h.upd (Nat.le_succ k) hs hx hms' ⟨by omega, fun q hq => hb.2.2 q (List.mem_filter.1 hq).1⟩ (keysOk_mdel h.ofk) (fun q n => by
        rw [mget_pid h.ofk]
        by_cases hq : q = p
        · subst hq
          rw [if_pos rfl]
          constructor
          · intro e; cases e
          · rintro (⟨y, hy, _, hpy⟩ | ⟨_, hpy⟩)
            · exact absurd hpy (other y hy)
            · simp at hpy
        · rw [if_neg hq, h.of q n, hs]
          constructor
          · rintro ⟨y, hy, e, hqy⟩
            simp only [List.mem_append, List.mem_cons] at hy
            rcases hy with hy | rfl | hy
            · exact .inl ⟨y, by simp [hy], e, hqy⟩
            · exact .inr ⟨e, by simp [hqy, hq]⟩
            · exact .inl ⟨y, by simp [hy], e, hqy⟩
          · rintro (⟨y, hy, e, hqy⟩ | ⟨e, hqy⟩)
            · exact ⟨y, by simp at hy ⊢; rcases hy with h | h <;> simp [h], e, hqy⟩
            · exact ⟨g0, by simp, e, (List.mem_filter.1 hqy).1⟩) q1 q2 ao none cap 0 aoN capN aoG capG
    have small : ∀ g ∈ L1 ++ { g0 with pids := g0.pids.filter fun q => q != p, ao := aoG, cap := capG } :: L2, g.pids.length ≤ k := fun y hy => by
      simp only [List.mem_append, List.mem_cons] at hy
      rcases hy with hy | rfl | hy
      · exact (h.big y (by rw [hs]; simp [hy])).2.1
      · dsimp only; omega
      · exact (h.big y (by rw [hs]; simp [hy])).2.1
    have gone : ∀ n, mget (mdel s.of (.i .i64 p)) (.i .i64 p) ≠ some n := fun n e => by rw [mget_mdel h.ofk] at e; cases e
    cases hc : ((g0.pids.filter fun q => q != p).length == 0) && !(r.notes.any fun x => sEq x g0.name) with
    | true =>
      refine ⟨rfl, main _ _ _ _ _ (fun n hn => ?_) ?_, fun _ => gone, small⟩
      · rcases List.mem_append.1 hn with hn | hn
        · exact h.nd n hn
        · exact ⟨g0, hgm, (List.mem_singleton.1 hn).symm⟩
      · have := h.lens.2; simp; omega
    | false =>
      refine ⟨rfl, ?_, fun _ => gone, small⟩
      have := main r.notes s.ao s.cap r.aoN r.capN h.nd (by have := h.lens.2; omega)
      dsimp only
      exact this
theorem GL.put {s : Grp} {r : RG} {k : Nat} (h : GL s r k) (p : Int) (hp : (Lit.int .i64 p).wf = true) (n : ByteArray) (ao : Option Addr) (cap : Nat) (ao1 : Option Addr) (cap1 : Nat) (aoN : Option Addr) (capN : Nat) (aoG : Option Addr) (capG : Nat) :
    (gPut s p n ao cap).2 = (rPut r p n ao1 cap1 aoN capN aoG capG).2 ∧ GL (gPut s p n ao cap).1 (rPut r p n ao1 cap1 aoN capN aoG capG).1 (k + 1) := by
  unfold gPut rPut
  rw [h.has n]
  cases hx : mget s.gs (.s n) with
  | none => exact ⟨rfl, h.mono (Nat.le_succ k)⟩
  | some x =>
    simp only [Option.isSome_some, Bool.not_true, Bool.false_or]
    cases hd : decide (p < 2) with
    | true => exact ⟨rfl, h.mono (Nat.le_succ k)⟩
    | false =>
      obtain ⟨g, hg, rfl⟩ := h.on n x hx
      obtain ⟨x', hx', hms⟩ := h.ex g hg
      rw [hx] at hx'
      obtain rfl := Option.some.inj hx'
      have hin : rIn r.L p g.name = true ↔ p ∈ g.pids := by
        unfold rIn
        rw [h.rof p]
        constructor
        · intro e
          split at e
          · rename_i m hm
            rw [sEqG] at e
            subst e
            obtain ⟨g', hg', e', hpg⟩ := (h.of p _).1 hm
            rw [asc_uniq h.asc hg hg' e'.symm]; exact hpg
          · cases e
        · intro hpg
          rw [(h.of p g.name).2 ⟨g, hg, rfl, hpg⟩]
          exact (sEqG _ _).2 rfl
      dsimp only
      cases hm : mget x.2 (.i .i64 p) with
      | some u =>
        rw [hin.2 ((hms.mem p).1 ⟨u, hm⟩)]
        exact ⟨rfl, h.mono (Nat.le_succ k)⟩
      | none =>
        have hnp : p ∉ g.pids := fun e => by
          obtain ⟨u, hu⟩ := (hms.mem p).2 e
          rw [hm] at hu; cases hu
        have hf : rIn r.L p g.name = false := by
          rw [← Bool.not_eq_true, hin]; exact hnp
        rw [hf]
        obtain ⟨_, h1, h2, h3⟩ := h.gone p ao cap ao1 cap1 aoN capN
        have h4 : ∀ n, mget (gGone s p ao cap).1.of (.i .i64 p) ≠ some n := by
          cases hq : (gGone s p ao cap).2 with
          | true => exact h2 hq
          | false =>
            intro n hn
            cases hmo : mget s.of (.i .i64 p) with
            | none =>
              have e : gGone s p ao cap = (s, false) := by simp only [gGone, hmo]
              rw [e, hmo] at hn; cases hn
            | some m =>
              obtain ⟨g', hg', rfl, _⟩ := (h.of p m).1 hmo
              obtain ⟨x', hx', _⟩ := h.ex g' hg'
              have : (gGone s p ao cap).2 = true := by
                simp only [gGone, hmo, hx']
                split <;> rfl
              rw [this] at hq; cases hq
        have hnames : ∃ g' ∈ (rGone r p ao1 cap1 aoN capN).1.L, g'.name = g.name := by
          have : (mget (gGone s p ao cap).1.gs (.s g.name)).isSome = true := by
            have hq := h.gone p ao cap ao1 cap1 aoN capN
            unfold gGone
            cases hmo : mget s.of (.i .i64 p) with
            | none => simp only; rw [hx]; rfl
            | some m =>
              obtain ⟨g', hg', rfl, _⟩ := (h.of p m).1 hmo
              obtain ⟨x', hx', _⟩ := h.ex g' hg'
              simp only [hx']
              have : (mget (mset s.gs (.s g'.name) (x'.1, mdel x'.2 (.i .i64 p))) (.s g.name)).isSome = true := by
                rw [mget_str]
                split
                · rfl
                · rw [hx]; rfl
              split <;> exact this
          rw [← h1.has] at this
          exact (rHas_iff h1.asc).1 this
        generalize (gGone s p ao cap).1 = s1 at h1 h4
        generalize (rGone r p ao1 cap1 aoN capN).1 = r1 at h1 h3 hnames
        have hh : rHas r1.L g.name = true := (rHas_iff h1.asc).2 hnames
        obtain ⟨L1, g1, L2, hs, hat, hn, hn1, hn2⟩ := rHas_split h1.asc hh
        have hgm : g1 ∈ r1.L := by rw [hs]; simp
        obtain ⟨y, hy, hmy⟩ := h1.ex g1 hgm
        rw [hn] at hy
        simp only [hy]
        refine ⟨trivial, ?_⟩
        have hnp1 : p ∉ g1.pids := fun e => h4 g1.name ((h1.of p _).2 ⟨g1, hgm, rfl, e⟩)
        obtain ⟨e1, e2⟩ := rSet_split (L1 := L1) (L2 := L2) (g := g1) (insI g1.pids p) aoG capG
        have hgd : r1.L.getD (rAt r1.L g.name) zR = g1 := by rw [hat, hs, e2]
        unfold rPut2
        rw [hgd, hat, hs, e1]
        have hb := h1.big g1 hgm
        have h3' := h3 g1 hgm
        have hres := h1.upd (k' := k + 1) (Nat.le_refl _) hs (x := y) (by rw [hn]; exact hy) (hmy.ins hnp1) ⟨by rw [insI_len]; omega, fun q hq => by
            rcases mem_insI.1 hq with rfl | hq
            · exact hp
            · exact hb.2.2 q hq⟩ (of' := mset s1.of (.i .i64 p) g.name) (keysOk_mset h1.ofk) (fun q n => by
            rw [mget_pidS]
            by_cases hq : q = p
            · subst hq
              rw [if_pos rfl]
              constructor
              · intro e
                right
                exact ⟨by rw [hn]; exact Option.some.inj e, mem_insI.2 (.inl rfl)⟩
              · rintro (⟨z, hz, _, hpz⟩ | ⟨e, _⟩)
                · exact absurd ((h1.of q z.name).2 ⟨z, by rw [hs]; simp at hz ⊢; rcases hz with h | h <;> simp [h], rfl, hpz⟩) (h4 _)
                · rw [← e, hn]
            · rw [if_neg hq, h1.of q n, hs]
              constructor
              · rintro ⟨z, hz, e, hqz⟩
                simp only [List.mem_append, List.mem_cons] at hz
                rcases hz with hz | rfl | hz
                · exact .inl ⟨z, by simp [hz], e, hqz⟩
                · exact .inr ⟨e, mem_insI.2 (.inr hqz)⟩
                · exact .inl ⟨z, by simp [hz], e, hqz⟩
              · rintro (⟨z, hz, e, hqz⟩ | ⟨e, hqz⟩)
                · exact ⟨z, by simp at hz ⊢; rcases hz with h | h <;> simp [h], e, hqz⟩
                · rcases mem_insI.1 hqz with h | h
                  · exact absurd h hq
                  · exact ⟨g1, by simp, e, h⟩)
          (nt := s1.notes) (by rw [h1.nt]; exact h1.nd) (by rw [h1.nt]; have := h1.lens.2; omega) s1.ao none s1.cap 0 r1.aoN r1.capN aoG capG
        rw [← hn] at hres ⊢
        have e3 : ({ r1 with L := L1 ++ { g1 with pids := insI g1.pids p, ao := aoG, cap := capG } :: L2, notes := s1.notes, aoN := r1.aoN, capN := r1.capN } : RG) = { r1 with L := L1 ++ { g1 with pids := insI g1.pids p, ao := aoG, cap := capG } :: L2 } := by rw [h1.nt]
        rw [e3] at hres
        exact hres
theorem GL.make {s : Grp} {r : RG} {k : Nat} (h : GL s r k) (n : ByteArray) (hn : n.size ≤ 100) (nb : Nat) (ao : Option Addr) (cap : Nat) : (gMake s n nb).2 = (rMake r n ao cap).2 ∧ GL (gMake s n nb).1 (rMake r n ao cap).1 (k + 1) := by
  unfold gMake rMake
  cases he : sEq n ⟨#[]⟩ with
  | true => exact ⟨rfl, h.mono (Nat.le_succ k)⟩
  | false =>
    rw [h.has n]
    cases hx : mget s.gs (.s n) with
    | some x => exact ⟨rfl, h.mono (Nat.le_succ k)⟩
    | none =>
      refine ⟨rfl, ?_⟩
      simp only [Option.isSome_none]
      have hno : ∀ g ∈ r.L, g.name ≠ n := by
        refine rHas_none h.asc ?_
        rw [h.has n, hx]; rfl
      obtain ⟨p1, p2⟩ := rAt_parts r.L n
      have hmem : ∀ y, y ∈ r.L.take (rAt r.L n) ++ ⟨n, none, 0, []⟩ :: r.L.drop (rAt r.L n) ↔ y = ⟨n, none, 0, []⟩ ∨ y ∈ r.L := fun y => by
        have h5 := List.take_append_drop (rAt r.L n) r.L
        rw [← h5, h5]
        constructor
        · intro hy
          rcases List.mem_append.1 hy with hy | hy
          · exact .inr (List.mem_of_mem_take hy)
          · rcases List.mem_cons.1 hy with hy | hy
            · exact .inl hy
            · exact .inr (List.mem_of_mem_drop hy)
        · rintro (hy | hy)
          · simp [hy]
          · rw [← h5] at hy
            rcases List.mem_append.1 hy with hy | hy
            · exact List.mem_append_left _ hy
            · exact List.mem_append_right _ (List.mem_cons_of_mem _ hy)
      have hnil : MS [] ([] : List (Key × Unit)) := ⟨List.Pairwise.nil, by simp, by simp [mget], List.Pairwise.nil⟩
      refine ⟨?_, fun y hy => ?_, fun m z hz => ?_, fun y hy => ?_, keysOk_mset h.gk, fun e he => ?_, h.ofk, fun p m => ?_, h.nt, fun m hm => ?_, ?_⟩
      · unfold AscN
        dsimp only
        rw [p1, p2]
        have ha := h.asc
        unfold AscN at ha
        refine List.pairwise_append.2 ⟨ha.sublist (List.takeWhile_sublist _), List.pairwise_cons.2 ⟨fun y hy => ?_, ha.sublist (List.dropWhile_sublist _)⟩, fun a hA b hb => ?_⟩
        · have h6 := dw_ge h.asc y hy
          cases h7 : sLt n y.name with
          | true => rfl
          | false => exact absurd (sLt_tri h6 h7) (hno y ((List.dropWhile_suffix _).subset hy))
        · have h6 := tw_all a hA
          rcases List.mem_cons.1 hb with rfl | hb
          · exact h6
          · have h8 := dw_ge h.asc b hb
            cases h7 : sLt n b.name with
            | true => exact sLt_trans h6 h7
            | false => exact absurd (sLt_tri h8 h7) (hno b ((List.dropWhile_suffix _).subset hb))
      · rcases (hmem y).1 hy with rfl | hy
        · exact ⟨(nb, []), by dsimp only; rw [mget_str, if_pos rfl], hnil⟩
        · obtain ⟨z, hz, hzm⟩ := h.ex y hy
          exact ⟨z, by dsimp only; rw [mget_str, if_neg (hno y hy)]; exact hz, hzm⟩
      · dsimp only at hz ⊢
        rw [mget_str] at hz
        by_cases hm : m = n
        · exact ⟨_, (hmem _).2 (.inl rfl), hm.symm⟩
        · rw [if_neg hm] at hz
          obtain ⟨y, hy, e⟩ := h.on m z hz
          exact ⟨y, (hmem y).2 (.inr hy), e⟩
      · rcases (hmem y).1 hy with rfl | hy
        · exact ⟨hn, by simp, by simp⟩
        · have := h.big y hy
          exact ⟨this.1, by omega, this.2.2⟩
      · rcases mem_mset he with rfl | he
        · rfl
        · exact h.kd e he
      · dsimp only
        rw [h.of p m]
        constructor
        · rintro ⟨y, hy, e⟩
          exact ⟨y, (hmem y).2 (.inr hy), e⟩
        · rintro ⟨y, hy, e, hp⟩
          rcases (hmem y).1 hy with rfl | hy
          · simp at hp
          · exact ⟨y, hy, e, hp⟩
      · obtain ⟨y, hy, e⟩ := h.nd m hm
        exact ⟨y, (hmem y).2 (.inr hy), e⟩
      · have h5 := congrArg List.length (List.take_append_drop (rAt r.L n) r.L)
        have := h.lens
        simp only [List.length_append, List.length_cons] at h5 ⊢
        omega
theorem GL.remove {s : Grp} {r : RG} {k : Nat} (h : GL s r k) (n : ByteArray) (ao : Option Addr) (cap : Nat) (aoN : Option Addr) (capN : Nat) : (gRemove s n).2 = (rRemove r n ao cap aoN capN).2 ∧ GL (gRemove s n).1 (rRemove r n ao cap aoN capN).1 (k + 1) := by
  unfold gRemove rRemove
  rw [h.has n]
  cases hx : mget s.gs (.s n) with
  | none => exact ⟨rfl, h.mono (Nat.le_succ k)⟩
  | some x =>
    have hh : rHas r.L n = true := by rw [h.has n, hx]; rfl
    obtain ⟨L1, g, L2, hs, hat, rfl, hn1, hn2⟩ := rHas_split h.asc hh
    have hgm : g ∈ r.L := by rw [hs]; simp
    obtain ⟨x', hx', hms⟩ := h.ex g hgm
    rw [hx] at hx'
    obtain rfl := Option.some.inj hx'
    have hgd : r.L.getD (rAt r.L g.name) zR = g := by rw [hat, hs]; simp [List.getD]
    simp only [Option.isSome_some, hgd, hms.len]
    cases hd : decide ((g.pids.length : Int) > 0) with
    | true => exact ⟨rfl, h.mono (Nat.le_succ k)⟩
    | false =>
      refine ⟨rfl, ?_⟩
      have hnil : g.pids = [] := by
        simp only [decide_eq_false_iff_not] at hd
        exact List.eq_nil_of_length_eq_zero (by omega)
      have ht : r.L.take (rAt r.L g.name) ++ r.L.drop (rAt r.L g.name + 1) = L1 ++ L2 := by
        rw [hat, hs, List.take_left, ← List.drop_drop, List.drop_left]; rfl
      rw [ht]
      have hold : ∀ y ∈ L1 ++ L2, y ∈ r.L := fun y hy => by rw [hs]; simp at hy ⊢; rcases hy with h | h <;> simp [h]
      have hne : ∀ y ∈ L1 ++ L2, y.name ≠ g.name := fun y hy => by
        rcases List.mem_append.1 hy with hy | hy
        · exact hn1 y hy
        · exact hn2 y hy
      have hback : ∀ y ∈ r.L, y.name ≠ g.name → y ∈ L1 ++ L2 := fun y hy e => by
        rw [hs] at hy
        simp only [List.mem_append, List.mem_cons] at hy ⊢
        rcases hy with hy | rfl | hy
        · exact .inl hy
        · exact absurd rfl e
        · exact .inr hy
      refine ⟨?_, fun y hy => ?_, fun m z hz => ?_, fun y hy => ?_, keysOk_mdel h.gk, fun e he => h.kd e (mem_mdel he), h.ofk, fun p m => ?_, ?_, fun m hm => ?_, ?_⟩
      · have ha := h.asc
        rw [hs] at ha
        exact ha.sublist (List.Sublist.append (List.Sublist.refl _) (List.sublist_cons_self _ _))
      · obtain ⟨z, hz, hzm⟩ := h.ex y (hold y hy)
        exact ⟨z, by dsimp only; rw [mget_strD h.gk, if_neg (hne y hy)]; exact hz, hzm⟩
      · dsimp only at hz ⊢
        rw [mget_strD h.gk] at hz
        by_cases hm : m = g.name
        · rw [if_pos hm] at hz; cases hz
        · rw [if_neg hm] at hz
          obtain ⟨y, hy, e⟩ := h.on m z hz
          exact ⟨y, hback y hy (by rw [e]; exact hm), e⟩
      · have := h.big y (hold y hy)
        exact ⟨this.1, by omega, this.2.2⟩
      · dsimp only
        rw [h.of p m]
        constructor
        · rintro ⟨y, hy, e, hp⟩
          refine ⟨y, hback y hy fun e2 => ?_, e, hp⟩
          rw [asc_uniq h.asc hy hgm e2, hnil] at hp
          cases hp
        · rintro ⟨y, hy, e⟩
          exact ⟨y, hold y hy, e⟩
      · dsimp only; rw [h.nt]
      · obtain ⟨q1, q2⟩ := List.mem_filter.1 hm
        obtain ⟨y, hy, e⟩ := h.nd m q1
        refine ⟨y, hback y hy ?_, e⟩
        rw [e]
        simpa [sEqGF] using q2
      · have := h.lens
        have h8 := List.length_filter_le (fun x => !sEq x g.name) r.notes
        rw [hs] at this
        simp only [List.length_append, List.length_cons] at this ⊢
        omega
theorem GL.first {s : Grp} {r : RG} {k : Nat} (h : GL s r k) : ∀ l : List ByteArray, (∀ n ∈ l, ∃ g ∈ r.L, g.name = n) → firstEmpty s.gs l = rFirst r.L l
  | [], _ => rfl
  | n :: l, hn => by
    obtain ⟨g0, hg0, rfl⟩ := hn n List.mem_cons_self
    have hh : rHas r.L g0.name = true := (rHas_iff h.asc).2 ⟨g0, hg0, rfl⟩
    obtain ⟨L1, g, L2, hs, hat, e, hn1, hn2⟩ := rHas_split h.asc hh
    have hgm : g ∈ r.L := by rw [hs]; simp
    have := asc_uniq h.asc hg0 hgm e.symm
    subst this
    obtain ⟨x, hx, hms⟩ := h.ex g0 hgm
    have hgd : r.L.getD (rAt r.L g0.name) zR = g0 := by rw [hat, hs]; simp [List.getD]
    have ih := h.first l fun n hm => hn n (List.mem_cons_of_mem _ hm)
    simp only [firstEmpty, rFirst, hx, hh, hgd, Bool.true_and, hms.len]
    cases hl : g0.pids.length with
    | zero => rfl
    | succ m => simpa using ih
theorem rFirst_sub (L : List RGrp) : ∀ l : List ByteArray, (∀ n ∈ (rFirst L l).1, n ∈ l) ∧ (rFirst L l).1.length ≤ l.length
  | [] => ⟨fun n h => h, Nat.le_refl _⟩
  | n :: l => by
    have ih := rFirst_sub L l
    unfold rFirst
    split
    · exact ⟨fun m h => List.mem_cons_of_mem _ h, by simp⟩
    · exact ⟨fun m h => List.mem_cons_of_mem _ (ih.1 m h), by have := ih.2; simp only [List.length_cons]; omega⟩
theorem GL.emptied {s : Grp} {r : RG} {k : Nat} (h : GL s r k) (ao : Option Addr) (cap : Nat) (aoN : Option Addr) (capN : Nat) : (gEmptied s ao cap).2 = (rFirst r.L r.notes).2 ∧ GL (gEmptied s ao cap).1 { r with notes := (rFirst r.L r.notes).1, aoN := aoN, capN := capN } (k + 1) := by
  have e := h.first r.notes h.nd
  unfold gEmptied
  rw [h.nt, e]
  refine ⟨rfl, h.asc, h.ex, h.on, fun g hg => ⟨(h.big g hg).1, by have := (h.big g hg).2.1; omega, (h.big g hg).2.2⟩, h.gk, h.kd, h.ofk, h.of, rfl, fun n hn => h.nd n ((rFirst_sub _ _).1 n hn), ?_⟩
  have := h.lens
  have h2 := (rFirst_sub r.L r.notes).2
  dsimp only
  omega
theorem GL.mem {s : Grp} {r : RG} {k : Nat} (h : GL s r k) (n : ByteArray) : memG s n = rMem r.L n := by
  unfold memG rMem
  rw [h.has n]
  cases hx : mget s.gs (.s n) with
  | none => rfl
  | some x =>
    have hh : rHas r.L n = true := by rw [h.has n, hx]; rfl
    obtain ⟨L1, g, L2, hs, hat, rfl, hn1, hn2⟩ := rHas_split h.asc hh
    have hgm : g ∈ r.L := by rw [hs]; simp
    obtain ⟨x', hx', hms⟩ := h.ex g hgm
    rw [hx] at hx'
    obtain rfl := Option.some.inj hx'
    have hgd : r.L.getD (rAt r.L g.name) zR = g := by rw [hat, hs]; simp [List.getD]
    simp only [Option.isSome_some, hgd, hms.sort]
theorem GL.memg {s : Grp} {r : RG} {k : Nat} (h : GL s r k) {g : RGrp} (hg : g ∈ r.L) : memG s g.name = g.pids := by
  obtain ⟨x, hx, hms⟩ := h.ex g hg
  unfold memG
  rw [hx]
  exact hms.sort
theorem GL.memok {s : Grp} {r : RG} {k : Nat} (h : GL s r k) (hk : k ≤ 1000) (n : ByteArray) : ∀ x, mget s.gs (.s n) = some x → wfI x.2 := by
  intro x hx
  obtain ⟨g, hg, rfl⟩ := h.on n x hx
  obtain ⟨x', hx', hms⟩ := h.ex g hg
  rw [hx] at hx'
  obtain rfl := Option.some.inj hx'
  have hb := h.big g hg
  refine ⟨hms.ok, by rw [hms.len]; omega, fun e he => ?_⟩
  obtain ⟨p, e1⟩ := hms.kd e he
  have hp : p ∈ g.pids := (hms.mem p).1 ⟨e.2, by rw [← e1]; exact mget_of_mem hms.ok he⟩
  rw [e1]
  exact hb.2.2 p hp
theorem keyS_of {k : Key} (h : keyKind k = none) : ∃ n, k = .s n := by
  cases k with
  | i a b => cases h
  | s n => exact ⟨n, rfl⟩
theorem ofB_data (n : ByteArray) : ofB n.data.toList = n := by
  unfold ofB
  simp
theorem GL.names {s : Grp} {r : RG} {k : Nat} (h : GL s r k) : sortS s.gs = r.L.map (·.name) := by
  have hnd : (s.gs.map fun e => keyStr e.1).Nodup := by
    unfold List.Nodup
    rw [List.pairwise_map]
    refine List.Pairwise.imp_of_mem ?_ h.gk
    intro a b ha hb hab e
    obtain ⟨p, e1⟩ := keyS_of (h.kd a ha)
    obtain ⟨q, e2⟩ := keyS_of (h.kd b hb)
    rw [e1, e2, keyS] at hab
    rw [e1, e2] at e
    simp only [keyStr] at e
    simp [baExt e] at hab
  have hasc : (r.L.map fun g => g.name.data.toList).Pairwise (· < ·) := by
    rw [List.pairwise_map]
    exact h.asc.imp fun {a b} hq => by rw [sLtG, decide_eq_true_eq] at hq; exact hq
  have hperm : (s.gs.map fun e => keyStr e.1).Perm (r.L.map fun g => g.name.data.toList) := by
    refine (List.perm_ext_iff_of_nodup hnd (hasc.imp fun {a b} hq e => by subst e; exact List.lt_irrefl _ hq)).2 fun x => ?_
    constructor
    · intro hx
      obtain ⟨e, he, rfl⟩ := List.mem_map.1 hx
      obtain ⟨n, e1⟩ := keyS_of (h.kd e he)
      obtain ⟨g, hg, rfl⟩ := h.on n e.2 (by rw [← e1]; exact mget_of_mem h.gk he)
      refine List.mem_map.2 ⟨g, hg, ?_⟩
      rw [e1]; rfl
    · intro hx
      obtain ⟨g, hg, rfl⟩ := List.mem_map.1 hx
      obtain ⟨x, hx, _⟩ := h.ex g hg
      obtain ⟨k', h2, h3⟩ := mget_mem hx
      refine List.mem_map.2 ⟨(k', x), h2, ?_⟩
      obtain ⟨n, e1⟩ := keyS_of (h.kd _ h2)
      dsimp only at e1 ⊢
      rw [e1, keyS, decide_eq_true_eq] at h3
      rw [e1, h3]; rfl
  unfold sortS
  rw [mergeSort_of_perm hperm, List.mergeSort_of_pairwise, List.map_map]
  · refine List.map_congr_left fun g _ => ?_
    exact ofB_data _
  · exact hasc.imp fun {x y} hq => by
      show leB x y = true
      simp only [leB, decide_eq_true_eq]
      exact List.le_of_lt hq
theorem GL.wfs {s : Grp} {r : RG} {k : Nat} (h : GL s r k) (hk : k ≤ 1000) : wfS s.gs := by
  have hl : s.gs.length = r.L.length := by
    have h1 := congrArg List.length h.names
    unfold sortS at h1
    simp only [List.length_map, List.length_mergeSort] at h1
    exact h1
  refine ⟨h.gk, by have := h.lens; omega, fun e he => ?_⟩
  obtain ⟨n, e1⟩ := keyS_of (h.kd e he)
  obtain ⟨g, hg, rfl⟩ := h.on n e.2 (by rw [← e1]; exact mget_of_mem h.gk he)
  have := (h.big g hg).1
  rw [e1]
  simp only [keyStr]
  unfold maxLen
  have e2 : g.name.data.toList.length = g.name.size := by rw [Array.length_toList]; rfl
  rw [e2]
  omega
end Go.Proofs.YtkcmgcoppecfpaaGreat

/- YtkcmgcoppecfpaaGreatKhP -/
/- The kernel's processes and groups go together (plain law). -/
namespace Go.Proofs.YtkcmgcoppecfpaaGreat
open Go Go.RowKit
set_option linter.unusedVariables false
set_option linter.unusedSimpArgs false
set_option linter.unnecessarySimpa false
set_option maxHeartbeats 0

theorem nodup_len : ∀ {a b : List Int}, a.Nodup → (∀ x ∈ a, x ∈ b) → a.length ≤ b.length := by
  intro a
  induction a with
  | nil => intro b _ _; exact Nat.zero_le _
  | cons x a ih =>
    intro b hn hs
    obtain ⟨n1, n2⟩ := List.nodup_cons.1 hn
    have hx := hs x List.mem_cons_self
    have := ih (b := b.erase x) n2 fun y hy => by
      have hne : y ≠ x := fun e => n1 (e ▸ hy)
      exact (List.mem_erase_of_ne hne).2 (hs y (List.mem_cons_of_mem _ hy))
    rw [List.length_erase_of_mem hx] at this
    have hpos := List.length_pos_of_mem hx
    simp only [List.length_cons]
    omega
theorem getP_mem {ps : List (Nat × PR)} (ha : ps.Pairwise fun x y => x.2.pid < y.2.pid) {x : Nat × PR} (hx : x ∈ ps) : getP ps x.2.pid = some x := by
  obtain ⟨l1, l2, rfl⟩ := List.append_of_mem hx
  unfold getP
  rw [List.find?_eq_some_iff_append]
  refine ⟨by simp, l1, l2, rfl, fun y hy => ?_⟩
  have := (List.pairwise_append.1 ha).2.2 y hy x List.mem_cons_self
  simp; omega
theorem getP_of {ps : List (Nat × PR)} {p : Int} {x : Nat × PR} (h : getP ps p = some x) : x ∈ ps ∧ x.2.pid = p := by
  unfold getP at h
  exact ⟨List.mem_of_find?_eq_some h, by simpa using List.find?_some h⟩
theorem getP_no {ps : List (Nat × PR)} {p : Int} (h : getP ps p = none) : ∀ x ∈ ps, x.2.pid ≠ p := by
  unfold getP at h
  rw [List.find?_eq_none] at h
  intro x hx e
  exact h x hx (by simpa using e)
theorem pGet_mem {pt : PT} (ho : pOk pt) {x : Nat × PR} (hx : x ∈ pt.ps) : pGet pt x.2.pid = x.2 ∧ pHas pt x.2.pid = true := by
  unfold pGet pHas
  rw [getP_mem ho.asc hx]
  exact ⟨rfl, rfl⟩
theorem pLive_iff {pt : PT} (ho : pOk pt) (p : Int) : pLive pt p = true ↔ ∃ x ∈ pt.ps, x.2.pid = p ∧ x.2.zombie = false := by
  unfold pLive
  rw [Bool.and_eq_true, Bool.not_eq_true']
  constructor
  · rintro ⟨h1, h2⟩
    unfold pHas at h1
    obtain ⟨x, hx⟩ := Option.isSome_iff_exists.1 h1
    obtain ⟨q1, q2⟩ := getP_of hx
    refine ⟨x, q1, q2, ?_⟩
    unfold pGet at h2
    rw [hx] at h2
    exact h2
  · rintro ⟨x, hx, rfl, hz⟩
    obtain ⟨q1, q2⟩ := pGet_mem ho hx
    rw [q1]
    exact ⟨q2, hz⟩

/-- Processes and groups: each that lives, but the first one, is a member of its group, and of no other; members live. -/
structure KH (pt : PT) (gr : Grp) (r : RG) (k : Nat) : Prop where
  gl : GL gr r k
  pi : PI pt (k + 1)
  ne : ∀ g ∈ r.L, g.name ≠ ⟨#[]⟩
  mem : ∀ g ∈ r.L, ∀ p ∈ g.pids, p ≠ 1 ∧ ∃ x ∈ pt.ps, x.2.pid = p ∧ x.2.zombie = false ∧ x.2.group = g.name
  liv : ∀ x ∈ pt.ps, x.2.zombie = false → x.2.pid ≠ 1 → ∃ g ∈ r.L, g.name = x.2.group ∧ x.2.pid ∈ g.pids
theorem KH.up {pt : PT} {gr : Grp} {r : RG} {k k' : Nat} (h : KH pt gr r k) (hk : k ≤ k') : KH pt gr r k' := ⟨h.gl.mono hk, h.pi.up (by omega), h.ne, h.mem, h.liv⟩
theorem sE_ne {n : ByteArray} (h : n ≠ ⟨#[]⟩) : sEq n ⟨#[]⟩ = false := (sEqGF _ _).2 h

/-- A process that is in no group is put to one. -/
theorem put_fresh {s : Grp} {r : RG} {k : Nat} (h : GL s r k) {p : Int} {n : ByteArray} (hf : ∀ g ∈ r.L, p ∉ g.pids) (hn : ∃ g ∈ r.L, g.name = n) (hp : 2 ≤ p) (ao1 : Option Addr) (cap1 : Nat) (aoN : Option Addr) (capN : Nat) (aoG : Option Addr) (capG : Nat) :
    (rPut r p n ao1 cap1 aoN capN aoG capG).2 = 0 ∧ (rPut r p n ao1 cap1 aoN capN aoG capG).1.notes = r.notes ∧
    ∃ L1 g L2, r.L = L1 ++ g :: L2 ∧ g.name = n ∧ (rPut r p n ao1 cap1 aoN capN aoG capG).1.L = L1 ++ { g with pids := insI g.pids p, ao := aoG, cap := capG } :: L2 := by
  have hof : rOf r.L p = none := by
    unfold rOf
    rw [List.find?_eq_none.2 fun g hg hc => hf g hg (List.contains_iff_mem.1 hc)]
    rfl
  have hh : rHas r.L n = true := (rHas_iff h.asc).2 hn
  have hin : rIn r.L p n = false := by unfold rIn; rw [hof]
  have hg : (rGone r p ao1 cap1 aoN capN).1 = r := by unfold rGone; rw [hof]
  have hd : decide (p < 2) = false := decide_eq_false (by omega)
  unfold rPut
  rw [hh, hd, hin, hg]
  obtain ⟨L1, g, L2, hs, hat, e, _⟩ := rHas_split h.asc hh
  obtain ⟨e1, e2⟩ := rSet_split (L1 := L1) (L2 := L2) (g := g) (insI g.pids p) aoG capG
  refine ⟨rfl, rfl, L1, g, L2, hs, e, ?_⟩
  show (rPut2 r p n aoG capG).L = _
  unfold rPut2
  have hgd : r.L.getD (rAt r.L n) zR = g := by rw [hat, hs, e2]
  rw [hgd, hat, hs, e1]
/-- A member goes. -/
theorem gone_in {s : Grp} {r : RG} {k : Nat} (h : GL s r k) {p : Int} {g : RGrp} (hg : g ∈ r.L) (hp : p ∈ g.pids) (ao : Option Addr) (cap : Nat) (aoN : Option Addr) (capN : Nat) :
    ∃ L1 L2, r.L = L1 ++ g :: L2 ∧ (rGone r p ao cap aoN capN).1.L = L1 ++ { g with pids := g.pids.filter fun q => q != p, ao := ao, cap := cap } :: L2 ∧
    (rGone r p ao cap aoN capN).1.notes = match ((g.pids.filter fun q => q != p).length == 0) && !(r.notes.any fun x => sEq x g.name) with | true => r.notes ++ [g.name] | false => r.notes := by
  have hof : rOf r.L p = some g.name := by rw [h.rof p]; exact (h.of p g.name).2 ⟨g, hg, rfl, hp⟩
  have hh : rHas r.L g.name = true := (rHas_iff h.asc).2 ⟨g, hg, rfl⟩
  obtain ⟨L1, g', L2, hs, hat, e, _⟩ := rHas_split h.asc hh
  have : g' = g := asc_uniq h.asc (by rw [hs]; simp) hg e
  subst this
  obtain ⟨e1, e2⟩ := rSet_split (L1 := L1) (L2 := L2) (g := g') (g'.pids.filter fun q => q != p) ao cap
  have hgd : r.L.getD (rAt r.L g'.name) zR = g' := by rw [hat, hs, e2]
  have hrs : rSet r.L (rAt r.L g'.name) (g'.pids.filter fun q => q != p) ao cap = L1 ++ { g' with pids := g'.pids.filter fun q => q != p, ao := ao, cap := cap } :: L2 := by rw [hat, hs, e1]
  refine ⟨L1, L2, hs, ?_⟩
  unfold rGone
  rw [hof]
  dsimp only
  rw [hgd, hrs]
  cases ((g'.pids.filter fun q => q != p).length == 0) && !(r.notes.any fun x => sEq x g'.name) <;> exact ⟨rfl, rfl⟩
theorem gone_out {r : RG} {p : Int} (hf : ∀ g ∈ r.L, p ∉ g.pids) (ao : Option Addr) (cap : Nat) (aoN : Option Addr) (capN : Nat) : (rGone r p ao cap aoN capN).1 = r := by
  have hof : rOf r.L p = none := by
    unfold rOf
    rw [List.find?_eq_none.2 fun g hg hc => hf g hg (List.contains_iff_mem.1 hc)]
    rfl
  unfold rGone
  rw [hof]

/-- A new process, in a group that is there. -/
theorem KH.add {pt : PT} {gr : Grp} {r : RG} {k : Nat} (h : KH pt gr r k) (hk : k < 900) {x : PR} {nb : Nat} (hx : x.zombie = false) (hg : ∃ g ∈ r.L, g.name = x.group) (ao : Option Addr) (cap : Nat) :
    (gPut gr (pt.last + 1) x.group ao cap).2 = 0 ∧ KH { pt with ps := pt.ps ++ [(nb, { x with pid := pt.last + 1 })], last := pt.last + 1 } (gPut gr (pt.last + 1) x.group ao cap).1 (rPut r (pt.last + 1) x.group none 0 none 0 none 0).1 (k + 1) ∧
    (rPut r (pt.last + 1) x.group none 0 none 0 none 0).1.notes = r.notes ∧
    ∃ L1 g L2, r.L = L1 ++ g :: L2 ∧ g.name = x.group ∧ (rPut r (pt.last + 1) x.group none 0 none 0 none 0).1.L = L1 ++ { g with pids := insI g.pids (pt.last + 1), ao := none, cap := 0 } :: L2 := by
  have hl1 := h.pi.last1
  have hl2 := h.pi.last
  have hl3 := h.pi.len
  have hfr : ∀ g ∈ r.L, pt.last + 1 ∉ g.pids := fun g hg hp => by
    obtain ⟨_, y, hy, e, _⟩ := h.mem g hg _ hp
    have := (h.pi.ok.le y hy).2
    omega
  have hwf : (Lit.int .i64 (pt.last + 1)).wf = true := by
    simp only [Lit.wf, Bool.and_eq_true]
    exact ⟨decide_eq_true (show (-9223372036854775808 : Int) ≤ _ by omega), decide_eq_true (show _ ≤ (9223372036854775807 : Int) by omega)⟩
  obtain ⟨q1, q2⟩ := h.gl.put (pt.last + 1) hwf x.group ao cap none 0 none 0 none 0
  obtain ⟨p1, p2, L1, g, L2, hs, he, hL⟩ := put_fresh h.gl hfr hg (by omega) none 0 none 0 none 0
  refine ⟨by rw [q1, p1], ⟨q2, ?_, ?_, ?_, ?_⟩, p2, L1, g, L2, hs, he, hL⟩
  · have h0 := h.pi
    obtain ⟨y, hy, e1, e2⟩ := h.pi.root
    exact ⟨h.pi.ok.add (by omega) (by omega) (by omega) rfl nb, ⟨y, List.mem_append_left _ hy, e1, e2⟩, by dsimp only; omega, by simp; omega⟩
  · intro y hy
    rw [hL] at hy
    simp only [List.mem_append, List.mem_cons] at hy
    rcases hy with hy | rfl | hy
    · exact h.ne y (by rw [hs]; simp [hy])
    · exact h.ne g (by rw [hs]; simp)
    · exact h.ne y (by rw [hs]; simp [hy])
  · intro y hy p hp
    rw [hL] at hy
    simp only [List.mem_append, List.mem_cons] at hy
    have old : ∀ y ∈ r.L, ∀ p ∈ y.pids, p ≠ 1 ∧ ∃ z ∈ pt.ps ++ [(nb, { x with pid := pt.last + 1 })], z.2.pid = p ∧ z.2.zombie = false ∧ z.2.group = y.name := fun y hy p hp => by
      obtain ⟨a, z, hz, b⟩ := h.mem y hy p hp
      exact ⟨a, z, List.mem_append_left _ hz, b⟩
    rcases hy with hy | rfl | hy
    · exact old y (by rw [hs]; simp [hy]) p hp
    · rcases mem_insI.1 hp with rfl | hp
      · exact ⟨by omega, _, List.mem_append_right _ (List.mem_singleton.2 rfl), rfl, hx, he.symm⟩
      · exact old g (by rw [hs]; simp) p hp
    · exact old y (by rw [hs]; simp [hy]) p hp
  · intro z hz hzz hz1
    dsimp only at hz
    rw [hL]
    rcases List.mem_append.1 hz with hz | hz
    · obtain ⟨y, hy, e1, e2⟩ := h.liv z hz hzz hz1
      rw [hs] at hy
      simp only [List.mem_append, List.mem_cons] at hy
      rcases hy with hy | rfl | hy
      · exact ⟨y, by simp [hy], e1, e2⟩
      · exact ⟨{ y with pids := insI y.pids (pt.last + 1), ao := none, cap := 0 }, by simp, e1, mem_insI.2 (.inr e2)⟩
      · exact ⟨y, by simp [hy], e1, e2⟩
    · rw [List.mem_singleton.1 hz]
      exact ⟨{ g with pids := insI g.pids (pt.last + 1), ao := none, cap := 0 }, by simp, he, mem_insI.2 (.inl rfl)⟩
/-- Processes are changed, not whose they are. -/
theorem KH.mapP {pt : PT} {gr : Grp} {r : RG} {k : Nat} (h : KH pt gr r k) (f : Nat × PR → Nat × PR) (hf : ∀ z, (f z).2.pid = z.2.pid ∧ (f z).2.zombie = z.2.zombie ∧ (f z).2.group = z.2.group) : KH { pt with ps := pt.ps.map f } gr r k := by
  refine ⟨h.gl, h.pi.mapP f (fun z => (hf z).1) (fun z h1 h2 => by rw [(hf z).2.1]; exact h2), h.ne, fun g hg p hp => ?_, fun z hz h1 h2 => ?_⟩
  · obtain ⟨a, z, hz, b1, b2, b3⟩ := h.mem g hg p hp
    exact ⟨a, f z, List.mem_map.2 ⟨z, hz, rfl⟩, by rw [(hf z).1]; exact b1, by rw [(hf z).2.1]; exact b2, by rw [(hf z).2.2]; exact b3⟩
  · obtain ⟨y, hy, rfl⟩ := List.mem_map.1 hz
    rw [(hf y).2.1] at h1
    rw [(hf y).1] at h2 ⊢
    rw [(hf y).2.2]
    exact h.liv y hy h1 h2
theorem KH.kill {pt : PT} {gr : Grp} {r : RG} {k : Nat} (h : KH pt gr r k) (p sig : Int) : KH (pKill pt p sig).1 gr r k := by
  have hs : ∀ g : PR → PR, (∀ r, (g r).pid = r.pid ∧ (g r).zombie = r.zombie ∧ (g r).group = r.group) → KH { pt with ps := setP pt.ps p g } gr r k := fun g hg => by
    unfold setP
    refine h.mapP _ fun z => ?_
    simp only [setOne]
    cases z.2.pid == p
    · exact ⟨rfl, rfl, rfl⟩
    · exact hg _
  unfold pKill
  cases pLive pt p && !(p == 1) with
  | false => exact h
  | true =>
    dsimp only
    cases sig == 15 with
    | true => exact hs _ fun r => ⟨rfl, rfl, rfl⟩
    | false =>
      cases sig == 9 with
      | true => exact hs _ fun r => ⟨rfl, rfl, rfl⟩
      | false => exact h
theorem KH.killAll {gr : Grp} {r : RG} {k : Nat} (sig : Int) : ∀ (ms : List Int) {pt : PT} (n : Int), KH pt gr r k → KH (ms.foldl (kgF sig) (pt, n)).1 gr r k
  | [], _, _, h => h
  | p :: ms, _, _, h => KH.killAll sig ms _ (h.kill p sig)
theorem pExit_live {pt : PT} {p st : Int} (h : (pLive pt p && !(p == 1)) = true) : pExit pt p st = ({ pt with ps := pt.ps.map fun x => ((setOne p (fun r => { r with zombie := true, status := stOf st }) x).1, orphan p (setOne p (fun r => { r with zombie := true, status := stOf st }) x).2) }, 0) := by
  unfold pExit
  rw [h]
  unfold setP
  dsimp only
  rw [List.map_map]
  rfl
theorem orph (p : Int) (r : PR) : (orphan p r).pid = r.pid ∧ (orphan p r).zombie = r.zombie ∧ (orphan p r).group = r.group ∧ (orphan p r).kill = r.kill := by
  unfold orphan
  cases r.parent == p <;> exact ⟨rfl, rfl, rfl, rfl⟩
/-- A process ends and leaves its group. -/
theorem KH.exit {pt : PT} {gr : Grp} {r : RG} {k : Nat} (h : KH pt gr r k) {p : Int} (st : Int) (hl : (pLive pt p && !(p == 1)) = true) (ao : Option Addr) (cap : Nat) :
    KH (pExit pt p st).1 (gGone gr p ao cap).1 (rGone r p none 0 none 0).1 (k + 1) := by
  have hl2 := hl
  simp only [Bool.and_eq_true, Bool.not_eq_true', beq_eq_false_iff_ne, ne_eq] at hl2
  obtain ⟨x, hx, rfl, hz⟩ := (pLive_iff h.pi.ok p).1 hl2.1
  obtain ⟨g, hg, e1, e2⟩ := h.liv x hx hz hl2.2
  obtain ⟨_, q2, _⟩ := h.gl.gone x.2.pid ao cap none 0 none 0
  obtain ⟨L1, L2, hs, hL, _⟩ := gone_in h.gl hg e2 none 0 none 0
  have other : ∀ y ∈ r.L, x.2.pid ∈ y.pids → y = g := fun y hy hp => h.gl.uniq hy hg hp e2
  have hpi := (h.pi.up (m := k + 1 + 1) (by omega)).exit x.2.pid st
  rw [pExit_live hl] at hpi ⊢
  generalize hf : (fun z : Nat × PR => ((setOne x.2.pid (fun r => { r with zombie := true, status := stOf st }) z).1, orphan x.2.pid (setOne x.2.pid (fun r => { r with zombie := true, status := stOf st }) z).2)) = f at hpi ⊢
  have hfz : ∀ z, (f z).2.pid = z.2.pid ∧ (f z).2.group = z.2.group ∧ (f z).2.zombie = (z.2.zombie || z.2.pid == x.2.pid) := fun z => by
    subst hf
    dsimp only
    rw [(orph _ _).1, (orph _ _).2.1, (orph _ _).2.2.1]
    simp only [setOne]
    cases z.2.pid == x.2.pid
    · exact ⟨rfl, rfl, by simp⟩
    · exact ⟨rfl, rfl, by simp⟩
  refine ⟨q2, hpi, ?_, ?_, ?_⟩
  · intro y hy
    rw [hL] at hy
    simp only [List.mem_append, List.mem_cons] at hy
    rcases hy with hy | rfl | hy
    · exact h.ne y (by rw [hs]; simp [hy])
    · exact h.ne g hg
    · exact h.ne y (by rw [hs]; simp [hy])
  · intro y hy p hp
    rw [hL] at hy
    simp only [List.mem_append, List.mem_cons] at hy
    have old : ∀ y ∈ r.L, ∀ p ∈ y.pids, p ≠ x.2.pid → p ≠ 1 ∧ ∃ z ∈ pt.ps.map f, z.2.pid = p ∧ z.2.zombie = false ∧ z.2.group = y.name := fun y hy p hp hne => by
      obtain ⟨a, z, hz, b1, b2, b3⟩ := h.mem y hy p hp
      refine ⟨a, f z, List.mem_map.2 ⟨z, hz, rfl⟩, by rw [(hfz z).1]; exact b1, ?_, by rw [(hfz z).2.1]; exact b3⟩
      rw [(hfz z).2.2, b2, b1]
      simpa using hne
    have ha := h.gl.asc
    rcases hy with hy | rfl | hy
    · have hy' : y ∈ r.L := by rw [hs]; simp [hy]
      refine old y hy' p hp fun e => ?_
      subst e
      have e5 := other y hy' hp
      subst e5
      rw [hs] at ha
      have := (List.pairwise_append.1 ha).2.2 y hy y List.mem_cons_self
      rw [sLt_irr] at this; cases this
    · have h3 := List.mem_filter.1 hp
      exact old g hg p h3.1 (by simpa using h3.2)
    · have hy' : y ∈ r.L := by rw [hs]; simp [hy]
      refine old y hy' p hp fun e => ?_
      subst e
      have e5 := other y hy' hp
      subst e5
      rw [hs] at ha
      have := (List.pairwise_cons.1 (List.pairwise_append.1 ha).2.1).1 y hy
      rw [sLt_irr] at this; cases this
  · intro z hz h1 h2
    obtain ⟨y, hy, rfl⟩ := List.mem_map.1 hz
    rw [(hfz y).2.2, Bool.or_eq_false_iff] at h1
    rw [(hfz y).1] at h2 ⊢
    rw [(hfz y).2.1, hL]
    have hne : y.2.pid ≠ x.2.pid := by simpa using h1.2
    obtain ⟨u, hu, a1, a2⟩ := h.liv y hy h1.1 h2
    rw [hs] at hu
    simp only [List.mem_append, List.mem_cons] at hu
    rcases hu with hu | rfl | hu
    · exact ⟨u, by simp [hu], a1, a2⟩
    · exact ⟨{ u with pids := u.pids.filter fun q => q != x.2.pid, ao := none, cap := 0 }, by simp, a1, by simp [a2, hne]⟩
    · exact ⟨u, by simp [hu], a1, a2⟩
/-- One that has ended is let go. -/
theorem KH.reap {pt : PT} {gr : Grp} {r : RG} {k : Nat} (h : KH pt gr r k) (p : Int) : KH (pReap pt p).1 gr r k := by
  have hpi := h.pi.reap p
  unfold pReap at hpi ⊢
  cases hd : deadOf pt p with
  | none => rw [hd] at hpi; exact h
  | some x =>
    rw [hd] at hpi
    dsimp only at hpi ⊢
    have h1 := List.find?_some hd
    have hx := List.mem_of_find?_eq_some hd
    simp only [Bool.and_eq_true] at h1
    refine ⟨h.gl, hpi, h.ne, fun g hg q hq => ?_, fun z hz => h.liv z (List.mem_filter.1 hz).1⟩
    obtain ⟨a, z, hz, b1, b2, b3⟩ := h.mem g hg q hq
    refine ⟨a, z, List.mem_filter.2 ⟨hz, ?_⟩, b1, b2, b3⟩
    rw [Bool.not_eq_true', beq_eq_false_iff_ne]
    intro e
    have e1 := getP_mem h.pi.ok.asc hz
    have e2 := getP_mem h.pi.ok.asc hx
    rw [e, e2] at e1
    have := Option.some.inj e1
    rw [← this, h1.1] at b2
    cases b2
/-- Whose a process is. -/
theorem KH.of_iff {pt : PT} {gr : Grp} {r : RG} {k : Nat} (h : KH pt gr r k) {p : Int} (hp : p ≠ 1) : (mget gr.of (.i .i64 p)).isSome = (pHas pt p && !(pGet pt p).zombie) ∧ ∀ n, mget gr.of (.i .i64 p) = some n → n = (pGet pt p).group := by
  have hl : (pHas pt p && !(pGet pt p).zombie) = pLive pt p := rfl
  constructor
  · rw [hl, Bool.eq_iff_iff, pLive_iff h.pi.ok, Option.isSome_iff_exists]
    constructor
    · rintro ⟨n, hn⟩
      obtain ⟨g, hg, _, hq⟩ := (h.gl.of p n).1 hn
      obtain ⟨_, x, hx, e1, e2, _⟩ := h.mem g hg p hq
      exact ⟨x, hx, e1, e2⟩
    · rintro ⟨x, hx, rfl, hz⟩
      obtain ⟨g, hg, e1, e2⟩ := h.liv x hx hz hp
      exact ⟨g.name, (h.gl.of _ _).2 ⟨g, hg, rfl, e2⟩⟩
  · intro n hn
    obtain ⟨g, hg, e0, hq⟩ := (h.gl.of p n).1 hn
    obtain ⟨_, x, hx, e1, e2, e3⟩ := h.mem g hg p hq
    subst e1
    rw [(pGet_mem h.pi.ok hx).1, e3, e0]
theorem KH.gsok {pt : PT} {gr : Grp} {r : RG} {k : Nat} (h : KH pt gr r k) (hk : k ≤ 1000) : gsOk gr := by
  have hl : gr.gs.length = r.L.length := by
    have h1 := congrArg List.length h.gl.names
    unfold sortS at h1
    simp only [List.length_map, List.length_mergeSort] at h1
    exact h1
  refine ⟨h.gl.wfs hk, by have := h.gl.lens; omega, h.gl.kd, fun n x hx => ⟨h.gl.memok hk n x hx, ?_⟩⟩
  obtain ⟨g, hg, rfl⟩ := h.gl.on n x hx
  obtain ⟨x', hx', hms⟩ := h.gl.ex g hg
  rw [hx] at hx'
  obtain rfl := Option.some.inj hx'
  rw [hms.len]
  have := (h.gl.big g hg).2.1
  omega
theorem KH.there {pt : PT} {gr : Grp} {r : RG} {k : Nat} (h : KH pt gr r k) {n : ByteArray} (hn : ∃ g ∈ r.L, g.name = n) : (mget gr.gs (.s n)).isSome = true := by
  obtain ⟨g, hg, rfl⟩ := hn
  obtain ⟨x, hx, _⟩ := h.gl.ex g hg
  rw [hx]; rfl
theorem KH.root {pt : PT} {gr : Grp} {r : RG} {k : Nat} (h : KH pt gr r k) : pLive pt 1 = true := by
  obtain ⟨x, hx, e1, e2⟩ := h.pi.root
  exact (pLive_iff h.pi.ok 1).2 ⟨x, hx, e1, e2⟩
theorem rMem_of {L : List RGrp} (ha : AscN L) {g : RGrp} (hg : g ∈ L) : rMem L g.name = g.pids := by
  have hh : rHas L g.name = true := (rHas_iff ha).2 ⟨g, hg, rfl⟩
  unfold rMem
  rw [hh]
  obtain ⟨L1, g', L2, hs, hat, e, _⟩ := rHas_split ha hh
  have : g' = g := asc_uniq ha (by rw [hs]; simp) hg e
  subst this
  rw [hat, hs]
  simp [List.getD]
end Go.Proofs.YtkcmgcoppecfpaaGreat

/- YtkcmgcoppecfpaaGreatKhC -/
/- KernHolds: what it calls. -/
namespace Go.Proofs.YtkcmgcoppecfpaaGreat
open Go Go.RowKit
set_option linter.unusedVariables false
set_option linter.unusedSimpArgs false
set_option linter.unnecessarySimpa false
set_option maxHeartbeats 0

def names3 : List ByteArray := [⟨#[97]⟩, ⟨#[98]⟩, ⟨#[99]⟩]
def khR : Tbl := [(60, adtC ptE reapM)]
def khT : Tbl := (14, inl Tryz.prog khR true Tryz.f14 300) :: (11, inl Tryz.prog knE true Tryz.f11 300) :: (16, adtC ptE getM) :: (17, adtC grpE gofM) :: klT
end Go.Proofs.YtkcmgcoppecfpaaGreat

