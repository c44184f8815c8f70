import Derived.Test.YtihajdkipkfiiaaPrcC
import Derived.Test.YtihajdkipkfiiaaTab
namespace Go.Proofs.Ytihajdkipkfiiaa
set_option linter.unusedVariables false
open Go Go.RowKit
set_option maxHeartbeats 0
set_option maxRecDepth 100000
set_option maxRecDepth 100000

theorem pNew_run (K : List Frm → Sy → Prop) (N : List Ent → SV → Prop) (room : Int) : (run Try.prog [] false [] K (retP Try.prog Try.f21.results.toList N) 600 [.code (bodyOf Try.f21)] ⟨padTo 13 [.int .i64 room], []⟩) = (
∀ (b : Nat),
 (true = true ∧ true = true) ∧
  (true = true ∧ true = true) ∧
   true = true ∧
    ∀ (b_1 : Nat),
     (b = b ∧ some IntKind.i64 = some IntKind.i64 ∧ some IntKind.i64 = some IntKind.i64) ∧
      (true = true ∧ true = true) ∧
       true = true ∧
        ∀ (b_2 : Nat),
         N
          [Ent.mk (Loc.blk b) (SObj.mapV (some IntKind.i64) [(Key.i IntKind.i64 (1 : Int), SV.ptr 1 b_1 0)]),
           Ent.mk (Loc.blk b_1)
            (SObj.cells
             [SV.int IntKind.i64 (1 : Int), SV.int IntKind.i64 (0 : Int), SV.str (ByteArray.mk #[]), SV.bool false, SV.int IntKind.i64 (0 : Int), SV.str (ByteArray.mk #[]), SV.bool false,
              SV.bool false]
             127),
           Ent.mk (Loc.blk b_2) (SObj.cells [SV.map 0 b, SV.int IntKind.i64 (mnI (mxI room (0 : Int)) (64 : Int)), SV.int IntKind.i64 (1 : Int)] 130)]
          (SV.ptr 2 b_2 0)) := by kernel_rfl


theorem pLen_run (K : List Frm → Sy → Prop) (N : List Ent → SV → Prop) (s : PT) (b : Nat) (rest : List Ent) : (run Try.prog [] false [] K (retP Try.prog Try.f28.results.toList N) 600 [.code (bodyOf Try.f28)] ⟨padTo 9 [.ptr 0 b 0], [⟨.blk b, .cells [.map 1 s.bm, .int .i64 s.room, .int .i64 s.last] 130⟩, ⟨.blk s.bm, .mapL (some .i64) encB1 (s.ps.map pkey)⟩, pk 0 rest]⟩) = (
b = b ∧
 s.1 = s.1 ∧
  N
   [Ent.mk (Loc.blk b) (SObj.cells [SV.map 1 s.1, SV.int IntKind.i64 s.3, SV.int IntKind.i64 s.4] (130 : TypeId)),
    Ent.mk (Loc.blk s.1) (SObj.mapL (some IntKind.i64) encB1 (List.map pkey s.2)), pk 0 rest]
   (SV.int IntKind.i64 (IntKind.wrap IntKind.i64 ((↑(List.length (List.map pkey s.2)) : Int) - (1 : Int))))) := by kernel_rfl


theorem pGet_none (K : List Frm → Sy → Prop) (N : List Ent → SV → Prop) (s : PT) (b : Nat) (rest : List Ent) (pid : Int) : (run Try.prog [] false [] K (retP Try.prog Try.f26.results.toList N) 600 [.code (bodyOf Try.f26)] ⟨padTo 24 [.ptr 0 b 0, .int .i64 pid], [⟨.blk b, .cells [.map 1 s.bm, .int .i64 s.room, .int .i64 s.last] 130⟩, ⟨.blk s.bm, .map1 (some .i64) encB1 (s.ps.map pkey) (.i .i64 pid) none⟩, pk 0 rest]⟩) = (
∀ (b_1 : Nat),
 b = b ∧
  (s.1 = s.1 ∧ Key.i IntKind.i64 pid = Key.i IntKind.i64 pid ∧ some IntKind.i64 = some IntKind.i64) ∧
   (true = true ∧ true = true) ∧
    (b_1 = b_1 ∧ true = true ∧ 6 = 6 ∧ 6 ≤ 6) ∧
     (b_1 = b_1 ∧ 6 = 6) ∧
      N
       [Ent.mk (Loc.blk b) (SObj.cells [SV.map 1 s.1, SV.int IntKind.i64 s.3, SV.int IntKind.i64 s.4] (130 : TypeId)),
        Ent.mk (Loc.blk s.1) (SObj.map1 (some IntKind.i64) encB1 (List.map pkey s.2) (Key.i IntKind.i64 pid) (@none SV)), pk 0 rest,
        Ent.mk (Loc.blk b_1)
         (SObj.cells [SV.int IntKind.i64 (0 : Int), SV.int IntKind.i64 (0 : Int), SV.str (ByteArray.mk #[]), SV.bool false, SV.int IntKind.i64 (0 : Int), SV.str (ByteArray.mk #[])]
          45)]
       (SV.tuple
        [SV.agg [SV.int IntKind.i64 (0 : Int), SV.int IntKind.i64 (0 : Int), SV.str (ByteArray.mk #[]), SV.bool false, SV.int IntKind.i64 (0 : Int), SV.str (ByteArray.mk #[])], SV.bool false])) := by kernel_rfl


theorem pGet_some (K : List Frm → Sy → Prop) (N : List Ent → SV → Prop) (s : PT) (b pb : Nat) (r : PR) (rest : List Ent) (pid : Int) : (run Try.prog [] false [] K (retP Try.prog Try.f26.results.toList N) 600 [.code (bodyOf Try.f26)] ⟨padTo 24 [.ptr 0 b 0, .int .i64 pid], [⟨.blk b, .cells [.map 1 s.bm, .int .i64 s.room, .int .i64 s.last] 130⟩, ⟨.blk s.bm, .map1 (some .i64) encB1 (s.ps.map pkey) (.i .i64 pid) (some (.ptr 2 pb 0))⟩, ⟨.blk pb, .cells (encR r) 127⟩, pk 0 rest]⟩) = (
∀ (b_1 : Nat),
 b = b ∧
  (s.1 = s.1 ∧ Key.i IntKind.i64 pid = Key.i IntKind.i64 pid ∧ some IntKind.i64 = some IntKind.i64) ∧
   (pb = pb ∧ 6 = 6) ∧
    (b_1 = b_1 ∧ true = true ∧ 6 = 6 ∧ 6 ≤ 6) ∧
     (b_1 = b_1 ∧ 6 = 6) ∧
      N
       [Ent.mk (Loc.blk b) (SObj.cells [SV.map 1 s.1, SV.int IntKind.i64 s.3, SV.int IntKind.i64 s.4] (130 : TypeId)),
        Ent.mk (Loc.blk s.1) (SObj.map1 (some IntKind.i64) encB1 (List.map pkey s.2) (Key.i IntKind.i64 pid) (some (SV.ptr 2 pb 0))),
        Ent.mk (Loc.blk pb) (SObj.cells [SV.int IntKind.i64 r.1, SV.int IntKind.i64 r.2, SV.str r.3, SV.bool r.4, SV.int IntKind.i64 r.5, SV.str r.6, SV.bool r.7, SV.bool r.8] (127 : TypeId)),
        pk 0 rest, Ent.mk (Loc.blk b_1) (SObj.cells [SV.int IntKind.i64 r.1, SV.int IntKind.i64 r.2, SV.str r.3, SV.bool r.4, SV.int IntKind.i64 r.5, SV.str r.6] 45)]
       (SV.tuple [SV.agg [SV.int IntKind.i64 r.1, SV.int IntKind.i64 r.2, SV.str r.3, SV.bool r.4, SV.int IntKind.i64 r.5, SV.str r.6], SV.bool true])) := by kernel_rfl


theorem pSig_none (K : List Frm → Sy → Prop) (N : List Ent → SV → Prop) (s : PT) (b : Nat) (rest : List Ent) (pid : Int) : (run Try.prog [] false [] K (retP Try.prog Try.f45.results.toList N) 600 [.code (bodyOf Try.f45)] ⟨padTo 27 [.ptr 0 b 0, .int .i64 pid], [⟨.blk b, .cells [.map 1 s.bm, .int .i64 s.room, .int .i64 s.last] 130⟩, ⟨.blk s.bm, .map1 (some .i64) encB1 (s.ps.map pkey) (.i .i64 pid) none⟩, pk 0 rest]⟩) = (
b = b ∧
 (s.1 = s.1 ∧ Key.i IntKind.i64 pid = Key.i IntKind.i64 pid ∧ some IntKind.i64 = some IntKind.i64) ∧
  N
   [Ent.mk (Loc.blk b) (SObj.cells [SV.map 1 s.1, SV.int IntKind.i64 s.3, SV.int IntKind.i64 s.4] (130 : TypeId)),
    Ent.mk (Loc.blk s.1) (SObj.map1 (some IntKind.i64) encB1 (List.map pkey s.2) (Key.i IntKind.i64 pid) (@none SV)), pk 0 rest]
   (SV.tuple [SV.bool false, SV.bool false])) := by kernel_rfl


theorem pSig_some (K : List Frm → Sy → Prop) (N : List Ent → SV → Prop) (s : PT) (b pb : Nat) (r : PR) (rest : List Ent) (pid : Int) : (run Try.prog [] false [] K (retP Try.prog Try.f45.results.toList N) 600 [.code (bodyOf Try.f45)] ⟨padTo 27 [.ptr 0 b 0, .int .i64 pid], [⟨.blk b, .cells [.map 1 s.bm, .int .i64 s.room, .int .i64 s.last] 130⟩, ⟨.blk s.bm, .map1 (some .i64) encB1 (s.ps.map pkey) (.i .i64 pid) (some (.ptr 2 pb 0))⟩, ⟨.blk pb, .cells (encR r) 127⟩, pk 0 rest]⟩) = (
b = b ∧
 (s.1 = s.1 ∧ Key.i IntKind.i64 pid = Key.i IntKind.i64 pid ∧ some IntKind.i64 = some IntKind.i64) ∧
  pb = pb ∧
   pb = pb ∧
    N
     [Ent.mk (Loc.blk b) (SObj.cells [SV.map 1 s.1, SV.int IntKind.i64 s.3, SV.int IntKind.i64 s.4] (130 : TypeId)),
      Ent.mk (Loc.blk s.1) (SObj.map1 (some IntKind.i64) encB1 (List.map pkey s.2) (Key.i IntKind.i64 pid) (some (SV.ptr 2 pb 0))),
      Ent.mk (Loc.blk pb) (SObj.cells [SV.int IntKind.i64 r.1, SV.int IntKind.i64 r.2, SV.str r.3, SV.bool r.4, SV.int IntKind.i64 r.5, SV.str r.6, SV.bool r.7, SV.bool r.8] (127 : TypeId)),
      pk 0 rest]
     (SV.tuple [SV.bool r.7, SV.bool r.8])) := by kernel_rfl


theorem pKill_none (K : List Frm → Sy → Prop) (N : List Ent → SV → Prop) (s : PT) (b : Nat) (rest : List Ent) (pid sig : Int) : (run Try.prog ptL false [] K (retP Try.prog Try.f41.results.toList N) 600 [.code (bodyOf Try.f41)] ⟨padTo 32 [.ptr 0 b 0, .int .i64 pid, .int .i64 sig], [⟨.blk b, .cells [.map 1 s.bm, .int .i64 s.room, .int .i64 s.last] 130⟩, ⟨.blk s.bm, .map1 (some .i64) encB1 (s.ps.map pkey) (.i .i64 pid) none⟩, pk 0 rest]⟩) = (
true = true ∧
 b = b ∧
  (s.1 = s.1 ∧ Key.i IntKind.i64 pid = Key.i IntKind.i64 pid ∧ some IntKind.i64 = some IntKind.i64) ∧
   N
    [Ent.mk (Loc.blk b) (SObj.cells [SV.map 1 s.1, SV.int IntKind.i64 s.3, SV.int IntKind.i64 s.4] (130 : TypeId)),
     Ent.mk (Loc.blk s.1) (SObj.map1 (some IntKind.i64) encB1 (List.map pkey s.2) (Key.i IntKind.i64 pid) (@none SV)), pk 0 rest]
    (SV.int IntKind.i64 (80 : Int))) := by kernel_rfl


theorem pKill_some (K : List Frm → Sy → Prop) (N : List Ent → SV → Prop) (s : PT) (b pb : Nat) (r : PR) (rest : List Ent) (pid sig : Int) : (run Try.prog ptL false [] K (retP Try.prog Try.f41.results.toList N) 600 [.code (bodyOf Try.f41)] ⟨padTo 32 [.ptr 0 b 0, .int .i64 pid, .int .i64 sig], [⟨.blk b, .cells [.map 1 s.bm, .int .i64 s.room, .int .i64 s.last] 130⟩, ⟨.blk s.bm, .map1 (some .i64) encB1 (s.ps.map pkey) (.i .i64 pid) (some (.ptr 2 pb 0))⟩, ⟨.blk pb, .cells (encR r) 127⟩, pk 0 rest]⟩) = (
true = true ∧
 b = b ∧
  (s.1 = s.1 ∧ Key.i IntKind.i64 pid = Key.i IntKind.i64 pid ∧ some IntKind.i64 = some IntKind.i64) ∧
   pb = pb ∧
    match !!r.4 with
    | true =>
     N
      [Ent.mk (Loc.blk b) (SObj.cells [SV.map 1 s.1, SV.int IntKind.i64 s.3, SV.int IntKind.i64 s.4] (130 : TypeId)),
       Ent.mk (Loc.blk s.1) (SObj.map1 (some IntKind.i64) encB1 (List.map pkey s.2) (Key.i IntKind.i64 pid) (some (SV.ptr 2 pb 0))),
       Ent.mk (Loc.blk pb) (SObj.cells [SV.int IntKind.i64 r.1, SV.int IntKind.i64 r.2, SV.str r.3, SV.bool r.4, SV.int IntKind.i64 r.5, SV.str r.6, SV.bool r.7, SV.bool r.8] (127 : TypeId)),
       pk 0 rest]
      (SV.int IntKind.i64 (80 : Int))
    | false =>
     match pid == (1 : Int) with
     | true =>
      N
       [Ent.mk (Loc.blk b) (SObj.cells [SV.map 1 s.1, SV.int IntKind.i64 s.3, SV.int IntKind.i64 s.4] (130 : TypeId)),
        Ent.mk (Loc.blk s.1) (SObj.map1 (some IntKind.i64) encB1 (List.map pkey s.2) (Key.i IntKind.i64 pid) (some (SV.ptr 2 pb 0))),
        Ent.mk (Loc.blk pb) (SObj.cells [SV.int IntKind.i64 r.1, SV.int IntKind.i64 r.2, SV.str r.3, SV.bool r.4, SV.int IntKind.i64 r.5, SV.str r.6, SV.bool r.7, SV.bool r.8] (127 : TypeId)),
        pk 0 rest]
       (SV.int IntKind.i64 (80 : Int))
     | false =>
      match sig == (15 : Int) with
      | true =>
       (pb = pb ∧ true = true ∧ 1 = 1 ∧ 7 ≤ 8) ∧
        N
         [Ent.mk (Loc.blk b) (SObj.cells [SV.map 1 s.1, SV.int IntKind.i64 s.3, SV.int IntKind.i64 s.4] (130 : TypeId)),
          Ent.mk (Loc.blk s.1) (SObj.map1 (some IntKind.i64) encB1 (List.map pkey s.2) (Key.i IntKind.i64 pid) (some (SV.ptr 2 pb 0))),
          Ent.mk (Loc.blk pb)
           (SObj.cells [SV.int IntKind.i64 r.1, SV.int IntKind.i64 r.2, SV.str r.3, SV.bool r.4, SV.int IntKind.i64 r.5, SV.str r.6, SV.bool true, SV.bool r.8] (127 : TypeId)),
          pk 0 rest]
         (SV.int IntKind.i64 (0 : Int))
      | false =>
       match sig == (9 : Int) with
       | true =>
        (pb = pb ∧ true = true ∧ 1 = 1 ∧ 8 ≤ 8) ∧
         N
          [Ent.mk (Loc.blk b) (SObj.cells [SV.map 1 s.1, SV.int IntKind.i64 s.3, SV.int IntKind.i64 s.4] (130 : TypeId)),
           Ent.mk (Loc.blk s.1) (SObj.map1 (some IntKind.i64) encB1 (List.map pkey s.2) (Key.i IntKind.i64 pid) (some (SV.ptr 2 pb 0))),
           Ent.mk (Loc.blk pb)
            (SObj.cells [SV.int IntKind.i64 r.1, SV.int IntKind.i64 r.2, SV.str r.3, SV.bool r.4, SV.int IntKind.i64 r.5, SV.str r.6, SV.bool r.7, SV.bool true] (127 : TypeId)),
           pk 0 rest]
          (SV.int IntKind.i64 (0 : Int))
       | false =>
        N
         [Ent.mk (Loc.blk b) (SObj.cells [SV.map 1 s.1, SV.int IntKind.i64 s.3, SV.int IntKind.i64 s.4] (130 : TypeId)),
          Ent.mk (Loc.blk s.1) (SObj.map1 (some IntKind.i64) encB1 (List.map pkey s.2) (Key.i IntKind.i64 pid) (some (SV.ptr 2 pb 0))),
          Ent.mk (Loc.blk pb)
           (SObj.cells [SV.int IntKind.i64 r.1, SV.int IntKind.i64 r.2, SV.str r.3, SV.bool r.4, SV.int IntKind.i64 r.5, SV.str r.6, SV.bool r.7, SV.bool r.8] (127 : TypeId)),
          pk 0 rest]
         (SV.int IntKind.i64 (80 : Int))) := by kernel_rfl


theorem pSpawn_none (K : List Frm → Sy → Prop) (N : List Ent → SV → Prop) (s : PT) (b : Nat) (rest : List Ent) (pid : Int) (group cmd : ByteArray) : (run Try.prog ptB false [] K (retP Try.prog Try.f22.results.toList N) 900 [.code (bodyOf Try.f22)] ⟨padTo 28 [.ptr 0 b 0, .int .i64 pid, .str group, .str cmd], [⟨.blk b, .cells [.map 1 s.bm, .int .i64 s.room, .int .i64 s.last] 130⟩, ⟨.blk s.bm, .map1 (some .i64) encB1 (s.ps.map pkey) (.i .i64 pid) none⟩, pk 0 rest]⟩) = (
true = true ∧
 b = b ∧
  (s.1 = s.1 ∧ Key.i IntKind.i64 pid = Key.i IntKind.i64 pid ∧ some IntKind.i64 = some IntKind.i64) ∧
   N
    [Ent.mk (Loc.blk b) (SObj.cells [SV.map 1 s.1, SV.int IntKind.i64 s.3, SV.int IntKind.i64 s.4] (130 : TypeId)),
     Ent.mk (Loc.blk s.1) (SObj.map1 (some IntKind.i64) encB1 (List.map pkey s.2) (Key.i IntKind.i64 pid) (@none SV)), pk 0 rest]
    (SV.tuple [SV.int IntKind.i64 (0 : Int), SV.int IntKind.i64 (80 : Int)])) := by kernel_rfl


theorem pSpawn_some (K : List Frm → Sy → Prop) (N : List Ent → SV → Prop) (s : PT) (b pb : Nat) (r : PR) (rest : List Ent) (pid : Int) (group cmd : ByteArray) : (run Try.prog ptB false [] K (retP Try.prog Try.f22.results.toList N) 900 [.code (bodyOf Try.f22)] ⟨padTo 28 [.ptr 0 b 0, .int .i64 pid, .str group, .str cmd], [⟨.blk b, .cells [.map 1 s.bm, .int .i64 s.room, .int .i64 s.last] 130⟩, ⟨.blk s.bm, .map1 (some .i64) encB1 (s.ps.map pkey) (.i .i64 pid) (some (.ptr 2 pb 0))⟩, ⟨.blk pb, .cells (encR r) 127⟩, pk 0 rest]⟩) = (
true = true ∧
 b = b ∧
  (s.1 = s.1 ∧ Key.i IntKind.i64 pid = Key.i IntKind.i64 pid ∧ some IntKind.i64 = some IntKind.i64) ∧
   pb = pb ∧
    match !!r.4 with
    | true =>
     N
      [Ent.mk (Loc.blk b) (SObj.cells [SV.map 1 s.1, SV.int IntKind.i64 s.3, SV.int IntKind.i64 s.4] (130 : TypeId)),
       Ent.mk (Loc.blk s.1) (SObj.map1 (some IntKind.i64) encB1 (List.map pkey s.2) (Key.i IntKind.i64 pid) (some (SV.ptr 2 pb 0))),
       Ent.mk (Loc.blk pb) (SObj.cells [SV.int IntKind.i64 r.1, SV.int IntKind.i64 r.2, SV.str r.3, SV.bool r.4, SV.int IntKind.i64 r.5, SV.str r.6, SV.bool r.7, SV.bool r.8] (127 : TypeId)),
       pk 0 rest]
      (SV.tuple [SV.int IntKind.i64 (0 : Int), SV.int IntKind.i64 (80 : Int)])
    | false =>
     (true = true ∧ true = true) ∧
      true = true ∧
       true = true ∧
        ∀ (b_1 : Nat),
         b = b ∧
          true = true ∧
           b = b ∧
            s.1 = s.1 ∧
             (Ent.mk (Loc.blk b) (SObj.cells [SV.map 1 s.1, SV.int IntKind.i64 s.3, SV.int IntKind.i64 s.4] (130 : TypeId)) =
              Ent.mk (Loc.blk b) (SObj.cells [SV.map 1 s.1, SV.int IntKind.i64 s.3, SV.int IntKind.i64 s.4] (130 : TypeId)) ∧
              Ent.mk (Loc.blk s.1) (SObj.map1 (some IntKind.i64) encB1 (List.map pkey s.2) (Key.i IntKind.i64 pid) (some (SV.ptr 2 pb 0))) =
               Ent.mk (Loc.blk s.1) (SObj.map1 (some IntKind.i64) encB1 (List.map pkey s.2) (Key.i IntKind.i64 pid) (some (SV.ptr 2 pb 0))) ∧
               Ent.mk (Loc.blk pb)
                (SObj.cells [SV.int IntKind.i64 r.1, SV.int IntKind.i64 r.2, SV.str r.3, SV.bool r.4, SV.int IntKind.i64 r.5, SV.str r.6, SV.bool r.7, SV.bool r.8]
                 (127 : TypeId)) =
                Ent.mk (Loc.blk pb)
                 (SObj.cells [SV.int IntKind.i64 r.1, SV.int IntKind.i64 r.2, SV.str r.3, SV.bool r.4, SV.int IntKind.i64 r.5, SV.str r.6, SV.bool r.7, SV.bool r.8]
                  (127 : TypeId)) ∧
                pk 0 rest = pk 0 rest ∧
                 Ent.mk (Loc.blk b_1)
                  (SObj.cells [SV.int IntKind.i64 (0 : Int), SV.int IntKind.i64 pid, SV.str group, SV.bool false, SV.int IntKind.i64 (0 : Int), SV.str cmd] 45) =
                  Ent.mk (Loc.blk b_1)
                   (SObj.cells [SV.int IntKind.i64 (0 : Int), SV.int IntKind.i64 pid, SV.str group, SV.bool false, SV.int IntKind.i64 (0 : Int), SV.str cmd] 45) ∧
                  True) ∧
              match decide (IntKind.wrap IntKind.i64 ((↑(List.length (List.map pkey s.2)) : Int) - (1 : Int)) ≥ s.3) with
              | true =>
               N
                [Ent.mk (Loc.blk b) (SObj.cells [SV.map 1 s.1, SV.int IntKind.i64 s.3, SV.int IntKind.i64 s.4] (130 : TypeId)),
                 Ent.mk (Loc.blk s.1) (SObj.map1 (some IntKind.i64) encB1 (List.map pkey s.2) (Key.i IntKind.i64 pid) (some (SV.ptr 2 pb 0))),
                 Ent.mk (Loc.blk pb)
                  (SObj.cells [SV.int IntKind.i64 r.1, SV.int IntKind.i64 r.2, SV.str r.3, SV.bool r.4, SV.int IntKind.i64 r.5, SV.str r.6, SV.bool r.7, SV.bool r.8] (127 : TypeId)),
                 pk 0 rest,
                 Ent.mk (Loc.blk b_1)
                  (SObj.cells [SV.int IntKind.i64 (0 : Int), SV.int IntKind.i64 pid, SV.str group, SV.bool false, SV.int IntKind.i64 (0 : Int), SV.str cmd] 45)]
                (SV.tuple [SV.int IntKind.i64 (0 : Int), SV.int IntKind.i64 (81 : Int)])
              | false =>
               b = b ∧
                (b = b ∧ true = true ∧ 1 = 1 ∧ 3 ≤ 3) ∧
                 b = b ∧
                  (b_1 = b_1 ∧ true = true ∧ 1 = 1 ∧ 1 ≤ 6) ∧
                   b = b ∧
                    b_1 = b_1 ∧
                     (b_1 = b_1 ∧ 6 = 6) ∧
                      (true = true ∧ true = true) ∧
                       true = true ∧
                        ∀ (b_2 : Nat),
                         (Ent.mk (Loc.blk b)
                          (SObj.cells [SV.map 1 s.1, SV.int IntKind.i64 s.3, SV.int IntKind.i64 (IntKind.wrap IntKind.i64 (s.4 + (1 : Int)))] (130 : TypeId)) =
                          Ent.mk (Loc.blk b)
                           (SObj.cells [SV.map 1 s.1, SV.int IntKind.i64 s.3, SV.int IntKind.i64 (IntKind.wrap IntKind.i64 (s.4 + (1 : Int)))] (130 : TypeId)) ∧
                          Ent.mk (Loc.blk s.1) (SObj.map1 (some IntKind.i64) encB1 (List.map pkey s.2) (Key.i IntKind.i64 pid) (some (SV.ptr 2 pb 0))) =
                           Ent.mk (Loc.blk s.1) (SObj.map1 (some IntKind.i64) encB1 (List.map pkey s.2) (Key.i IntKind.i64 pid) (some (SV.ptr 2 pb 0))) ∧
                           Ent.mk (Loc.blk pb)
                            (SObj.cells
                             [SV.int IntKind.i64 r.1, SV.int IntKind.i64 r.2, SV.str r.3, SV.bool r.4, SV.int IntKind.i64 r.5, SV.str r.6, SV.bool r.7, SV.bool r.8]
                             (127 : TypeId)) =
                            Ent.mk (Loc.blk pb)
                             (SObj.cells
                              [SV.int IntKind.i64 r.1, SV.int IntKind.i64 r.2, SV.str r.3, SV.bool r.4, SV.int IntKind.i64 r.5, SV.str r.6, SV.bool r.7, SV.bool r.8]
                              (127 : TypeId)) ∧
                            pk 0 rest = pk 0 rest ∧
                             Ent.mk (Loc.blk b_1)
                              (SObj.cells
                               [SV.int IntKind.i64 (IntKind.wrap IntKind.i64 (s.4 + (1 : Int))), SV.int IntKind.i64 pid, SV.str group, SV.bool false,
                                SV.int IntKind.i64 (0 : Int), SV.str cmd]
                               45) =
                              Ent.mk (Loc.blk b_1)
                               (SObj.cells
                                [SV.int IntKind.i64 (IntKind.wrap IntKind.i64 (s.4 + (1 : Int))), SV.int IntKind.i64 pid, SV.str group, SV.bool false,
                                 SV.int IntKind.i64 (0 : Int), SV.str cmd]
                                45) ∧
                              True) ∧
                          (s.1 = s.1 ∧ some IntKind.i64 = some IntKind.i64 ∧ some IntKind.i64 = some IntKind.i64) ∧
                           ∃ (u : Nat),
                            den (SV.ptr 2 u 0) = den (SV.ptr 5 b_2 0) ∧
                             b_1 = b_1 ∧
                              N
                               [Ent.mk (Loc.blk b)
                                (SObj.cells [SV.map 1 s.1, SV.int IntKind.i64 s.3, SV.int IntKind.i64 (IntKind.wrap IntKind.i64 (s.4 + (1 : Int)))]
                                 (130 : TypeId)),
                                Ent.mk (Loc.blk s.1)
                                 (SObj.map1 (some IntKind.i64) encB1 (mset (List.map pkey s.2) (Key.i IntKind.i64 (IntKind.wrap IntKind.i64 (s.4 + (1 : Int)))) u)
                                  (Key.i IntKind.i64 (IntKind.wrap IntKind.i64 (s.4 + (1 : Int)))) (some (SV.ptr 5 b_2 0))),
                                Ent.mk (Loc.blk pb)
                                 (SObj.cells
                                  [SV.int IntKind.i64 r.1, SV.int IntKind.i64 r.2, SV.str r.3, SV.bool r.4, SV.int IntKind.i64 r.5, SV.str r.6, SV.bool r.7,
                                   SV.bool r.8]
                                  (127 : TypeId)),
                                pk 0 rest,
                                Ent.mk (Loc.blk b_1)
                                 (SObj.cells
                                  [SV.int IntKind.i64 (IntKind.wrap IntKind.i64 (s.4 + (1 : Int))), SV.int IntKind.i64 pid, SV.str group, SV.bool false,
                                   SV.int IntKind.i64 (0 : Int), SV.str cmd]
                                  45),
                                Ent.mk (Loc.blk b_2)
                                 (SObj.cells
                                  [SV.int IntKind.i64 (IntKind.wrap IntKind.i64 (s.4 + (1 : Int))), SV.int IntKind.i64 pid, SV.str group, SV.bool false,
                                   SV.int IntKind.i64 (0 : Int), SV.str cmd, SV.bool false, SV.bool false]
                                  127)]
                               (SV.tuple [SV.int IntKind.i64 (IntKind.wrap IntKind.i64 (s.4 + (1 : Int))), SV.int IntKind.i64 (0 : Int)])) := by kernel_rfl


theorem pFork_none (K : List Frm → Sy → Prop) (N : List Ent → SV → Prop) (s : PT) (b : Nat) (rest : List Ent) (pid : Int) : (run Try.prog ptB false [] K (retP Try.prog Try.f23.results.toList N) 900 [.code (bodyOf Try.f23)] ⟨padTo 42 [.ptr 0 b 0, .int .i64 pid], [⟨.blk b, .cells [.map 1 s.bm, .int .i64 s.room, .int .i64 s.last] 130⟩, ⟨.blk s.bm, .map1 (some .i64) encB1 (s.ps.map pkey) (.i .i64 pid) none⟩, pk 0 rest]⟩) = (
true = true ∧
 b = b ∧
  (s.1 = s.1 ∧ Key.i IntKind.i64 pid = Key.i IntKind.i64 pid ∧ some IntKind.i64 = some IntKind.i64) ∧
   N
    [Ent.mk (Loc.blk b) (SObj.cells [SV.map 1 s.1, SV.int IntKind.i64 s.3, SV.int IntKind.i64 s.4] (130 : TypeId)),
     Ent.mk (Loc.blk s.1) (SObj.map1 (some IntKind.i64) encB1 (List.map pkey s.2) (Key.i IntKind.i64 pid) (@none SV)), pk 0 rest]
    (SV.tuple [SV.int IntKind.i64 (0 : Int), SV.int IntKind.i64 (80 : Int)])) := by kernel_rfl


theorem pFork_some (K : List Frm → Sy → Prop) (N : List Ent → SV → Prop) (s : PT) (b pb : Nat) (r : PR) (rest : List Ent) (pid : Int) : (run Try.prog ptB false [] K (retP Try.prog Try.f23.results.toList N) 900 [.code (bodyOf Try.f23)] ⟨padTo 42 [.ptr 0 b 0, .int .i64 pid], [⟨.blk b, .cells [.map 1 s.bm, .int .i64 s.room, .int .i64 s.last] 130⟩, ⟨.blk s.bm, .map1 (some .i64) encB1 (s.ps.map pkey) (.i .i64 pid) (some (.ptr 2 pb 0))⟩, ⟨.blk pb, .cells (encR r) 127⟩, pk 0 rest]⟩) = (
true = true ∧
 b = b ∧
  (s.1 = s.1 ∧ Key.i IntKind.i64 pid = Key.i IntKind.i64 pid ∧ some IntKind.i64 = some IntKind.i64) ∧
   pb = pb ∧
    match !!r.4 with
    | true =>
     N
      [Ent.mk (Loc.blk b) (SObj.cells [SV.map 1 s.1, SV.int IntKind.i64 s.3, SV.int IntKind.i64 s.4] (130 : TypeId)),
       Ent.mk (Loc.blk s.1) (SObj.map1 (some IntKind.i64) encB1 (List.map pkey s.2) (Key.i IntKind.i64 pid) (some (SV.ptr 2 pb 0))),
       Ent.mk (Loc.blk pb) (SObj.cells [SV.int IntKind.i64 r.1, SV.int IntKind.i64 r.2, SV.str r.3, SV.bool r.4, SV.int IntKind.i64 r.5, SV.str r.6, SV.bool r.7, SV.bool r.8] (127 : TypeId)),
       pk 0 rest]
      (SV.tuple [SV.int IntKind.i64 (0 : Int), SV.int IntKind.i64 (80 : Int)])
    | false =>
     match pid == (1 : Int) with
     | true =>
      N
       [Ent.mk (Loc.blk b) (SObj.cells [SV.map 1 s.1, SV.int IntKind.i64 s.3, SV.int IntKind.i64 s.4] (130 : TypeId)),
        Ent.mk (Loc.blk s.1) (SObj.map1 (some IntKind.i64) encB1 (List.map pkey s.2) (Key.i IntKind.i64 pid) (some (SV.ptr 2 pb 0))),
        Ent.mk (Loc.blk pb) (SObj.cells [SV.int IntKind.i64 r.1, SV.int IntKind.i64 r.2, SV.str r.3, SV.bool r.4, SV.int IntKind.i64 r.5, SV.str r.6, SV.bool r.7, SV.bool r.8] (127 : TypeId)),
        pk 0 rest]
       (SV.tuple [SV.int IntKind.i64 (0 : Int), SV.int IntKind.i64 (80 : Int)])
     | false =>
      pb = pb ∧
       match r.8 with
       | true =>
        N
         [Ent.mk (Loc.blk b) (SObj.cells [SV.map 1 s.1, SV.int IntKind.i64 s.3, SV.int IntKind.i64 s.4] (130 : TypeId)),
          Ent.mk (Loc.blk s.1) (SObj.map1 (some IntKind.i64) encB1 (List.map pkey s.2) (Key.i IntKind.i64 pid) (some (SV.ptr 2 pb 0))),
          Ent.mk (Loc.blk pb)
           (SObj.cells [SV.int IntKind.i64 r.1, SV.int IntKind.i64 r.2, SV.str r.3, SV.bool r.4, SV.int IntKind.i64 r.5, SV.str r.6, SV.bool r.7, SV.bool r.8] (127 : TypeId)),
          pk 0 rest]
         (SV.tuple [SV.int IntKind.i64 (0 : Int), SV.int IntKind.i64 (80 : Int)])
       | false =>
        (pb = pb ∧
         pb = pb ∧
          (true = true ∧ true = true) ∧
           true = true ∧
            true = true ∧
             ∀ (b_1 : Nat),
              b = b ∧
               true = true ∧
                b = b ∧
                 s.1 = s.1 ∧
                  (Ent.mk (Loc.blk b) (SObj.cells [SV.map 1 s.1, SV.int IntKind.i64 s.3, SV.int IntKind.i64 s.4] (130 : TypeId)) =
                   Ent.mk (Loc.blk b) (SObj.cells [SV.map 1 s.1, SV.int IntKind.i64 s.3, SV.int IntKind.i64 s.4] (130 : TypeId)) ∧
                   Ent.mk (Loc.blk s.1) (SObj.map1 (some IntKind.i64) encB1 (List.map pkey s.2) (Key.i IntKind.i64 pid) (some (SV.ptr 2 pb 0))) =
                    Ent.mk (Loc.blk s.1) (SObj.map1 (some IntKind.i64) encB1 (List.map pkey s.2) (Key.i IntKind.i64 pid) (some (SV.ptr 2 pb 0))) ∧
                    Ent.mk (Loc.blk pb)
                     (SObj.cells [SV.int IntKind.i64 r.1, SV.int IntKind.i64 r.2, SV.str r.3, SV.bool r.4, SV.int IntKind.i64 r.5, SV.str r.6, SV.bool r.7, SV.bool r.8]
                      (127 : TypeId)) =
                     Ent.mk (Loc.blk pb)
                      (SObj.cells [SV.int IntKind.i64 r.1, SV.int IntKind.i64 r.2, SV.str r.3, SV.bool r.4, SV.int IntKind.i64 r.5, SV.str r.6, SV.bool r.7, SV.bool r.8]
                       (127 : TypeId)) ∧
                     pk 0 rest = pk 0 rest ∧
                      Ent.mk (Loc.blk b_1)
                       (SObj.cells [SV.int IntKind.i64 (0 : Int), SV.int IntKind.i64 pid, SV.str r.3, SV.bool false, SV.int IntKind.i64 (0 : Int), SV.str r.6]
                        45) =
                       Ent.mk (Loc.blk b_1)
                        (SObj.cells [SV.int IntKind.i64 (0 : Int), SV.int IntKind.i64 pid, SV.str r.3, SV.bool false, SV.int IntKind.i64 (0 : Int), SV.str r.6]
                         45) ∧
                       True) ∧
                   match decide (IntKind.wrap IntKind.i64 ((↑(List.length (List.map pkey s.2)) : Int) - (1 : Int)) ≥ s.3) with
                   | true =>
                    N
                     [Ent.mk (Loc.blk b) (SObj.cells [SV.map 1 s.1, SV.int IntKind.i64 s.3, SV.int IntKind.i64 s.4] (130 : TypeId)),
                      Ent.mk (Loc.blk s.1) (SObj.map1 (some IntKind.i64) encB1 (List.map pkey s.2) (Key.i IntKind.i64 pid) (some (SV.ptr 2 pb 0))),
                      Ent.mk (Loc.blk pb)
                       (SObj.cells [SV.int IntKind.i64 r.1, SV.int IntKind.i64 r.2, SV.str r.3, SV.bool r.4, SV.int IntKind.i64 r.5, SV.str r.6, SV.bool r.7, SV.bool r.8]
                        (127 : TypeId)),
                      pk 0 rest,
                      Ent.mk (Loc.blk b_1)
                       (SObj.cells [SV.int IntKind.i64 (0 : Int), SV.int IntKind.i64 pid, SV.str r.3, SV.bool false, SV.int IntKind.i64 (0 : Int), SV.str r.6] 45)]
                     (SV.tuple [SV.int IntKind.i64 (0 : Int), SV.int IntKind.i64 (81 : Int)])
                   | false =>
                    b = b ∧
                     (b = b ∧ true = true ∧ 1 = 1 ∧ 3 ≤ 3) ∧
                      b = b ∧
                       (b_1 = b_1 ∧ true = true ∧ 1 = 1 ∧ 1 ≤ 6) ∧
                        b = b ∧
                         b_1 = b_1 ∧
                          (b_1 = b_1 ∧ 6 = 6) ∧
                           (true = true ∧ true = true) ∧
                            true = true ∧
                             ∀ (b_2 : Nat),
                              (Ent.mk (Loc.blk b)
                               (SObj.cells [SV.map 1 s.1, SV.int IntKind.i64 s.3, SV.int IntKind.i64 (IntKind.wrap IntKind.i64 (s.4 + (1 : Int)))]
                                (130 : TypeId)) =
                               Ent.mk (Loc.blk b)
                                (SObj.cells [SV.map 1 s.1, SV.int IntKind.i64 s.3, SV.int IntKind.i64 (IntKind.wrap IntKind.i64 (s.4 + (1 : Int)))]
                                 (130 : TypeId)) ∧
                               Ent.mk (Loc.blk s.1)
                                (SObj.map1 (some IntKind.i64) encB1 (List.map pkey s.2) (Key.i IntKind.i64 pid) (some (SV.ptr 2 pb 0))) =
                                Ent.mk (Loc.blk s.1)
                                 (SObj.map1 (some IntKind.i64) encB1 (List.map pkey s.2) (Key.i IntKind.i64 pid) (some (SV.ptr 2 pb 0))) ∧
                                Ent.mk (Loc.blk pb)
                                 (SObj.cells
                                  [SV.int IntKind.i64 r.1, SV.int IntKind.i64 r.2, SV.str r.3, SV.bool r.4, SV.int IntKind.i64 r.5, SV.str r.6, SV.bool r.7,
                                   SV.bool r.8]
                                  (127 : TypeId)) =
                                 Ent.mk (Loc.blk pb)
                                  (SObj.cells
                                   [SV.int IntKind.i64 r.1, SV.int IntKind.i64 r.2, SV.str r.3, SV.bool r.4, SV.int IntKind.i64 r.5, SV.str r.6, SV.bool r.7,
                                    SV.bool r.8]
                                   (127 : TypeId)) ∧
                                 pk 0 rest = pk 0 rest ∧
                                  Ent.mk (Loc.blk b_1)
                                   (SObj.cells
                                    [SV.int IntKind.i64 (IntKind.wrap IntKind.i64 (s.4 + (1 : Int))), SV.int IntKind.i64 pid, SV.str r.3, SV.bool false,
                                     SV.int IntKind.i64 (0 : Int), SV.str r.6]
                                    45) =
                                   Ent.mk (Loc.blk b_1)
                                    (SObj.cells
                                     [SV.int IntKind.i64 (IntKind.wrap IntKind.i64 (s.4 + (1 : Int))), SV.int IntKind.i64 pid, SV.str r.3, SV.bool false,
                                      SV.int IntKind.i64 (0 : Int), SV.str r.6]
                                     45) ∧
                                   True) ∧
                               (s.1 = s.1 ∧ some IntKind.i64 = some IntKind.i64 ∧ some IntKind.i64 = some IntKind.i64) ∧
                                ∃ (u : Nat),
                                 den (SV.ptr 2 u 0) = den (SV.ptr 5 b_2 0) ∧
                                  b_1 = b_1 ∧
                                   N
                                    [Ent.mk (Loc.blk b)
                                     (SObj.cells
                                      [SV.map 1 s.1, SV.int IntKind.i64 s.3, SV.int IntKind.i64 (IntKind.wrap IntKind.i64 (s.4 + (1 : Int)))]
                                      (130 : TypeId)),
                                     Ent.mk (Loc.blk s.1)
                                      (SObj.map1 (some IntKind.i64) encB1
                                       (mset (List.map pkey s.2) (Key.i IntKind.i64 (IntKind.wrap IntKind.i64 (s.4 + (1 : Int)))) u)
                                       (Key.i IntKind.i64 (IntKind.wrap IntKind.i64 (s.4 + (1 : Int)))) (some (SV.ptr 5 b_2 0))),
                                     Ent.mk (Loc.blk pb)
                                      (SObj.cells
                                       [SV.int IntKind.i64 r.1, SV.int IntKind.i64 r.2, SV.str r.3, SV.bool r.4, SV.int IntKind.i64 r.5, SV.str r.6,
                                        SV.bool r.7, SV.bool r.8]
                                       (127 : TypeId)),
                                     pk 0 rest,
                                     Ent.mk (Loc.blk b_1)
                                      (SObj.cells
                                       [SV.int IntKind.i64 (IntKind.wrap IntKind.i64 (s.4 + (1 : Int))), SV.int IntKind.i64 pid, SV.str r.3, SV.bool false,
                                        SV.int IntKind.i64 (0 : Int), SV.str r.6]
                                       45),
                                     Ent.mk (Loc.blk b_2)
                                      (SObj.cells
                                       [SV.int IntKind.i64 (IntKind.wrap IntKind.i64 (s.4 + (1 : Int))), SV.int IntKind.i64 pid, SV.str r.3, SV.bool false,
                                        SV.int IntKind.i64 (0 : Int), SV.str r.6, SV.bool false, SV.bool false]
                                       127)]
                                    (SV.tuple [SV.int IntKind.i64 (IntKind.wrap IntKind.i64 (s.4 + (1 : Int))), SV.int IntKind.i64 (0 : Int)])) ∧
         pb = pb ∧
          pb = pb ∧
           (true = true ∧ true = true) ∧
            true = true ∧
             true = true ∧
              ∀ (b_1 : Nat),
               b = b ∧
                true = true ∧
                 b = b ∧
                  s.1 = s.1 ∧
                   (Ent.mk (Loc.blk b) (SObj.cells [SV.map 1 s.1, SV.int IntKind.i64 s.3, SV.int IntKind.i64 s.4] (130 : TypeId)) =
                    Ent.mk (Loc.blk b) (SObj.cells [SV.map 1 s.1, SV.int IntKind.i64 s.3, SV.int IntKind.i64 s.4] (130 : TypeId)) ∧
                    Ent.mk (Loc.blk s.1) (SObj.map1 (some IntKind.i64) encB1 (List.map pkey s.2) (Key.i IntKind.i64 pid) (some (SV.ptr 2 pb 0))) =
                     Ent.mk (Loc.blk s.1) (SObj.map1 (some IntKind.i64) encB1 (List.map pkey s.2) (Key.i IntKind.i64 pid) (some (SV.ptr 2 pb 0))) ∧
                     Ent.mk (Loc.blk pb)
                      (SObj.cells [SV.int IntKind.i64 r.1, SV.int IntKind.i64 r.2, SV.str r.3, SV.bool r.4, SV.int IntKind.i64 r.5, SV.str r.6, SV.bool r.7, SV.bool r.8]
                       (127 : TypeId)) =
                      Ent.mk (Loc.blk pb)
                       (SObj.cells [SV.int IntKind.i64 r.1, SV.int IntKind.i64 r.2, SV.str r.3, SV.bool r.4, SV.int IntKind.i64 r.5, SV.str r.6, SV.bool r.7, SV.bool r.8]
                        (127 : TypeId)) ∧
                      pk 0 rest = pk 0 rest ∧
                       Ent.mk (Loc.blk b_1)
                        (SObj.cells [SV.int IntKind.i64 (0 : Int), SV.int IntKind.i64 pid, SV.str r.3, SV.bool false, SV.int IntKind.i64 (0 : Int), SV.str r.6]
                         45) =
                        Ent.mk (Loc.blk b_1)
                         (SObj.cells [SV.int IntKind.i64 (0 : Int), SV.int IntKind.i64 pid, SV.str r.3, SV.bool false, SV.int IntKind.i64 (0 : Int), SV.str r.6]
                          45) ∧
                        True) ∧
                    match decide (IntKind.wrap IntKind.i64 ((↑(List.length (List.map pkey s.2)) : Int) - (1 : Int)) ≥ s.3) with
                    | true =>
                     N
                      [Ent.mk (Loc.blk b) (SObj.cells [SV.map 1 s.1, SV.int IntKind.i64 s.3, SV.int IntKind.i64 s.4] (130 : TypeId)),
                       Ent.mk (Loc.blk s.1) (SObj.map1 (some IntKind.i64) encB1 (List.map pkey s.2) (Key.i IntKind.i64 pid) (some (SV.ptr 2 pb 0))),
                       Ent.mk (Loc.blk pb)
                        (SObj.cells [SV.int IntKind.i64 r.1, SV.int IntKind.i64 r.2, SV.str r.3, SV.bool r.4, SV.int IntKind.i64 r.5, SV.str r.6, SV.bool r.7, SV.bool r.8]
                         (127 : TypeId)),
                       pk 0 rest,
                       Ent.mk (Loc.blk b_1)
                        (SObj.cells [SV.int IntKind.i64 (0 : Int), SV.int IntKind.i64 pid, SV.str r.3, SV.bool false, SV.int IntKind.i64 (0 : Int), SV.str r.6] 45)]
                      (SV.tuple [SV.int IntKind.i64 (0 : Int), SV.int IntKind.i64 (81 : Int)])
                    | false =>
                     b = b ∧
                      (b = b ∧ true = true ∧ 1 = 1 ∧ 3 ≤ 3) ∧
                       b = b ∧
                        (b_1 = b_1 ∧ true = true ∧ 1 = 1 ∧ 1 ≤ 6) ∧
                         b = b ∧
                          b_1 = b_1 ∧
                           (b_1 = b_1 ∧ 6 = 6) ∧
                            (true = true ∧ true = true) ∧
                             true = true ∧
                              ∀ (b_2 : Nat),
                               (Ent.mk (Loc.blk b)
                                (SObj.cells [SV.map 1 s.1, SV.int IntKind.i64 s.3, SV.int IntKind.i64 (IntKind.wrap IntKind.i64 (s.4 + (1 : Int)))]
                                 (130 : TypeId)) =
                                Ent.mk (Loc.blk b)
                                 (SObj.cells [SV.map 1 s.1, SV.int IntKind.i64 s.3, SV.int IntKind.i64 (IntKind.wrap IntKind.i64 (s.4 + (1 : Int)))]
                                  (130 : TypeId)) ∧
                                Ent.mk (Loc.blk s.1)
                                 (SObj.map1 (some IntKind.i64) encB1 (List.map pkey s.2) (Key.i IntKind.i64 pid) (some (SV.ptr 2 pb 0))) =
                                 Ent.mk (Loc.blk s.1)
                                  (SObj.map1 (some IntKind.i64) encB1 (List.map pkey s.2) (Key.i IntKind.i64 pid) (some (SV.ptr 2 pb 0))) ∧
                                 Ent.mk (Loc.blk pb)
                                  (SObj.cells
                                   [SV.int IntKind.i64 r.1, SV.int IntKind.i64 r.2, SV.str r.3, SV.bool r.4, SV.int IntKind.i64 r.5, SV.str r.6, SV.bool r.7,
                                    SV.bool r.8]
                                   (127 : TypeId)) =
                                  Ent.mk (Loc.blk pb)
                                   (SObj.cells
                                    [SV.int IntKind.i64 r.1, SV.int IntKind.i64 r.2, SV.str r.3, SV.bool r.4, SV.int IntKind.i64 r.5, SV.str r.6, SV.bool r.7,
                                     SV.bool r.8]
                                    (127 : TypeId)) ∧
                                  pk 0 rest = pk 0 rest ∧
                                   Ent.mk (Loc.blk b_1)
                                    (SObj.cells
                                     [SV.int IntKind.i64 (IntKind.wrap IntKind.i64 (s.4 + (1 : Int))), SV.int IntKind.i64 pid, SV.str r.3, SV.bool false,
                                      SV.int IntKind.i64 (0 : Int), SV.str r.6]
                                     45) =
                                    Ent.mk (Loc.blk b_1)
                                     (SObj.cells
                                      [SV.int IntKind.i64 (IntKind.wrap IntKind.i64 (s.4 + (1 : Int))), SV.int IntKind.i64 pid, SV.str r.3, SV.bool false,
                                       SV.int IntKind.i64 (0 : Int), SV.str r.6]
                                      45) ∧
                                    True) ∧
                                (s.1 = s.1 ∧ some IntKind.i64 = some IntKind.i64 ∧ some IntKind.i64 = some IntKind.i64) ∧
                                 ∃ (u : Nat),
                                  den (SV.ptr 2 u 0) = den (SV.ptr 5 b_2 0) ∧
                                   b_1 = b_1 ∧
                                    N
                                     [Ent.mk (Loc.blk b)
                                      (SObj.cells
                                       [SV.map 1 s.1, SV.int IntKind.i64 s.3, SV.int IntKind.i64 (IntKind.wrap IntKind.i64 (s.4 + (1 : Int)))]
                                       (130 : TypeId)),
                                      Ent.mk (Loc.blk s.1)
                                       (SObj.map1 (some IntKind.i64) encB1
                                        (mset (List.map pkey s.2) (Key.i IntKind.i64 (IntKind.wrap IntKind.i64 (s.4 + (1 : Int)))) u)
                                        (Key.i IntKind.i64 (IntKind.wrap IntKind.i64 (s.4 + (1 : Int)))) (some (SV.ptr 5 b_2 0))),
                                      Ent.mk (Loc.blk pb)
                                       (SObj.cells
                                        [SV.int IntKind.i64 r.1, SV.int IntKind.i64 r.2, SV.str r.3, SV.bool r.4, SV.int IntKind.i64 r.5, SV.str r.6,
                                         SV.bool r.7, SV.bool r.8]
                                        (127 : TypeId)),
                                      pk 0 rest,
                                      Ent.mk (Loc.blk b_1)
                                       (SObj.cells
                                        [SV.int IntKind.i64 (IntKind.wrap IntKind.i64 (s.4 + (1 : Int))), SV.int IntKind.i64 pid, SV.str r.3, SV.bool false,
                                         SV.int IntKind.i64 (0 : Int), SV.str r.6]
                                        45),
                                      Ent.mk (Loc.blk b_2)
                                       (SObj.cells
                                        [SV.int IntKind.i64 (IntKind.wrap IntKind.i64 (s.4 + (1 : Int))), SV.int IntKind.i64 pid, SV.str r.3, SV.bool false,
                                         SV.int IntKind.i64 (0 : Int), SV.str r.6, SV.bool false, SV.bool false]
                                        127)]
                                     (SV.tuple [SV.int IntKind.i64 (IntKind.wrap IntKind.i64 (s.4 + (1 : Int))), SV.int IntKind.i64 (0 : Int)])) := by kernel_rfl


theorem pExit_none (K : List Frm → Sy → Prop) (N : List Ent → SV → Prop) (s : PT) (b : Nat) (rest : List Ent) (pid status : Int) : (run Try.prog ptL false [] K (retP Try.prog Try.f24.results.toList N) 900 [.code (bodyOf Try.f24)] ⟨padTo 58 [.ptr 0 b 0, .int .i64 pid, .int .i64 status], [⟨.blk b, .cells [.map 1 s.bm, .int .i64 s.room, .int .i64 s.last] 130⟩, ⟨.blk s.bm, .map1 (some .i64) encB1 (s.ps.map pkey) (.i .i64 pid) none⟩, pk 0 rest]⟩) = (
true = true ∧
 b = b ∧
  (s.1 = s.1 ∧ Key.i IntKind.i64 pid = Key.i IntKind.i64 pid ∧ some IntKind.i64 = some IntKind.i64) ∧
   N
    [Ent.mk (Loc.blk b) (SObj.cells [SV.map 1 s.1, SV.int IntKind.i64 s.3, SV.int IntKind.i64 s.4] (130 : TypeId)),
     Ent.mk (Loc.blk s.1) (SObj.map1 (some IntKind.i64) encB1 (List.map pkey s.2) (Key.i IntKind.i64 pid) (@none SV)), pk 0 rest]
    (SV.int IntKind.i64 (80 : Int))) := by kernel_rfl


theorem pExit_some (K : List Frm → Sy → Prop) (N : List Ent → SV → Prop) (s : PT) (b pb : Nat) (r : PR) (rest : List Ent) (pid status : Int) : (run Try.prog ptL false [7] K (retP Try.prog Try.f24.results.toList N) 900 [.code (bodyOf Try.f24)] ⟨padTo 58 [.ptr 0 b 0, .int .i64 pid, .int .i64 status], [⟨.blk b, .cells [.map 1 s.bm, .int .i64 s.room, .int .i64 s.last] 130⟩, ⟨.blk s.bm, .map1 (some .i64) encB1 (s.ps.map pkey) (.i .i64 pid) (some (.ptr 2 pb 0))⟩, ⟨.blk pb, .cells (encR r) 127⟩, pk 0 rest]⟩) = (
true = true ∧
 b = b ∧
  (s.1 = s.1 ∧ Key.i IntKind.i64 pid = Key.i IntKind.i64 pid ∧ some IntKind.i64 = some IntKind.i64) ∧
   pb = pb ∧
    match !!r.4 with
    | true =>
     N
      [Ent.mk (Loc.blk b) (SObj.cells [SV.map 1 s.1, SV.int IntKind.i64 s.3, SV.int IntKind.i64 s.4] (130 : TypeId)),
       Ent.mk (Loc.blk s.1) (SObj.map1 (some IntKind.i64) encB1 (List.map pkey s.2) (Key.i IntKind.i64 pid) (some (SV.ptr 2 pb 0))),
       Ent.mk (Loc.blk pb) (SObj.cells [SV.int IntKind.i64 r.1, SV.int IntKind.i64 r.2, SV.str r.3, SV.bool r.4, SV.int IntKind.i64 r.5, SV.str r.6, SV.bool r.7, SV.bool r.8] (127 : TypeId)),
       pk 0 rest]
      (SV.int IntKind.i64 (80 : Int))
    | false =>
     match pid == (1 : Int) with
     | true =>
      N
       [Ent.mk (Loc.blk b) (SObj.cells [SV.map 1 s.1, SV.int IntKind.i64 s.3, SV.int IntKind.i64 s.4] (130 : TypeId)),
        Ent.mk (Loc.blk s.1) (SObj.map1 (some IntKind.i64) encB1 (List.map pkey s.2) (Key.i IntKind.i64 pid) (some (SV.ptr 2 pb 0))),
        Ent.mk (Loc.blk pb) (SObj.cells [SV.int IntKind.i64 r.1, SV.int IntKind.i64 r.2, SV.str r.3, SV.bool r.4, SV.int IntKind.i64 r.5, SV.str r.6, SV.bool r.7, SV.bool r.8] (127 : TypeId)),
        pk 0 rest]
       (SV.int IntKind.i64 (80 : Int))
     | false =>
      match decide (status < (-64 : Int)) with
      | true =>
       (pb = pb ∧ true = true ∧ 1 = 1 ∧ 4 ≤ 8) ∧
        (pb = pb ∧ true = true ∧ 1 = 1 ∧ 5 ≤ 8) ∧
         K (frmR [] (bodyOf Try.f24) 7)
          (Sy.mk
           [SV.ptr 0 b 0, SV.int IntKind.i64 pid, SV.int IntKind.i64 (255 : Int), SV.raw (Value.tuple #[]), SV.raw (Value.tuple #[]), SV.raw (Value.tuple #[]),
            SV.int IntKind.i64 (0 : Int), SV.ptr 2 pb 0, SV.bool !r.4, SV.raw (Value.tuple #[]), SV.raw (Value.tuple #[]),
            SV.tuple [SV.ptr 2 pb 0, SV.bool !r.4], SV.ptr 0 b 0, SV.int IntKind.i64 pid, SV.tuple [SV.ptr 2 pb 0, SV.bool !r.4],
            SV.ptr 2 pb 0, SV.bool !r.4, SV.bool !r.4, SV.bool !!r.4, SV.bool false, SV.int IntKind.i64 pid, SV.bool (pid == (1 : Int)), SV.bool false,
            SV.int IntKind.i64 status, SV.bool (decide (status < (-64 : Int))), SV.bool true, SV.raw (Value.tuple #[]), SV.raw (Value.tuple #[]), SV.bool true,
            SV.ptr 2 pb 0, SV.ptr 2 pb 0, SV.int IntKind.i64 (255 : Int), SV.ptr 2 pb 0, SV.ptr 2 pb 0,
            SV.ptr 2 pb 3, SV.ptr 2 pb 0, SV.ptr 2 pb 0, SV.ptr 2 pb 4, SV.raw (Value.tuple #[]), SV.raw (Value.tuple #[]),
            SV.raw (Value.tuple #[]), SV.raw (Value.tuple #[]), SV.raw (Value.tuple #[]), SV.raw (Value.tuple #[]), SV.raw (Value.tuple #[]), SV.raw (Value.tuple #[]),
            SV.raw (Value.tuple #[]), SV.raw (Value.tuple #[]), SV.raw (Value.tuple #[]), SV.raw (Value.tuple #[]), SV.raw (Value.tuple #[]), SV.raw (Value.tuple #[]),
            SV.raw (Value.tuple #[]), SV.raw (Value.tuple #[]), SV.raw (Value.tuple #[]), SV.raw (Value.tuple #[]), SV.raw (Value.tuple #[]), SV.raw (Value.tuple #[])]
           [Ent.mk (Loc.blk b) (SObj.cells [SV.map 1 s.1, SV.int IntKind.i64 s.3, SV.int IntKind.i64 s.4] (130 : TypeId)),
            Ent.mk (Loc.blk s.1) (SObj.map1 (some IntKind.i64) encB1 (List.map pkey s.2) (Key.i IntKind.i64 pid) (some (SV.ptr 2 pb 0))),
            Ent.mk (Loc.blk pb)
             (SObj.cells [SV.int IntKind.i64 r.1, SV.int IntKind.i64 r.2, SV.str r.3, SV.bool true, SV.int IntKind.i64 (255 : Int), SV.str r.6, SV.bool r.7, SV.bool r.8] (127 : TypeId)),
            pk 0 rest])
      | false =>
       match decide (status > (255 : Int)) with
       | true =>
        (pb = pb ∧ true = true ∧ 1 = 1 ∧ 4 ≤ 8) ∧
         (pb = pb ∧ true = true ∧ 1 = 1 ∧ 5 ≤ 8) ∧
          K (frmR [] (bodyOf Try.f24) 7)
           (Sy.mk
            [SV.ptr 0 b 0, SV.int IntKind.i64 pid, SV.int IntKind.i64 (255 : Int), SV.raw (Value.tuple #[]), SV.raw (Value.tuple #[]), SV.raw (Value.tuple #[]),
             SV.int IntKind.i64 (0 : Int), SV.ptr 2 pb 0, SV.bool !r.4, SV.raw (Value.tuple #[]), SV.raw (Value.tuple #[]),
             SV.tuple [SV.ptr 2 pb 0, SV.bool !r.4], SV.ptr 0 b 0, SV.int IntKind.i64 pid, SV.tuple [SV.ptr 2 pb 0, SV.bool !r.4],
             SV.ptr 2 pb 0, SV.bool !r.4, SV.bool !r.4, SV.bool !!r.4, SV.bool false, SV.int IntKind.i64 pid, SV.bool (pid == (1 : Int)), SV.bool false,
             SV.int IntKind.i64 status, SV.bool (decide (status < (-64 : Int))), SV.bool false, SV.int IntKind.i64 status, SV.bool (decide (status > (255 : Int))), SV.bool true,
             SV.ptr 2 pb 0, SV.ptr 2 pb 0, SV.int IntKind.i64 (255 : Int), SV.ptr 2 pb 0, SV.ptr 2 pb 0,
             SV.ptr 2 pb 3, SV.ptr 2 pb 0, SV.ptr 2 pb 0, SV.ptr 2 pb 4, SV.raw (Value.tuple #[]),
             SV.raw (Value.tuple #[]), SV.raw (Value.tuple #[]), SV.raw (Value.tuple #[]), SV.raw (Value.tuple #[]), SV.raw (Value.tuple #[]), SV.raw (Value.tuple #[]),
             SV.raw (Value.tuple #[]), SV.raw (Value.tuple #[]), SV.raw (Value.tuple #[]), SV.raw (Value.tuple #[]), SV.raw (Value.tuple #[]), SV.raw (Value.tuple #[]),
             SV.raw (Value.tuple #[]), SV.raw (Value.tuple #[]), SV.raw (Value.tuple #[]), SV.raw (Value.tuple #[]), SV.raw (Value.tuple #[]), SV.raw (Value.tuple #[]),
             SV.raw (Value.tuple #[])]
            [Ent.mk (Loc.blk b) (SObj.cells [SV.map 1 s.1, SV.int IntKind.i64 s.3, SV.int IntKind.i64 s.4] (130 : TypeId)),
             Ent.mk (Loc.blk s.1) (SObj.map1 (some IntKind.i64) encB1 (List.map pkey s.2) (Key.i IntKind.i64 pid) (some (SV.ptr 2 pb 0))),
             Ent.mk (Loc.blk pb)
              (SObj.cells [SV.int IntKind.i64 r.1, SV.int IntKind.i64 r.2, SV.str r.3, SV.bool true, SV.int IntKind.i64 (255 : Int), SV.str r.6, SV.bool r.7, SV.bool r.8]
               (127 : TypeId)),
             pk 0 rest])
       | false =>
        (pb = pb ∧ true = true ∧ 1 = 1 ∧ 4 ≤ 8) ∧
         (pb = pb ∧ true = true ∧ 1 = 1 ∧ 5 ≤ 8) ∧
          K (frmR [] (bodyOf Try.f24) 7)
           (Sy.mk
            [SV.ptr 0 b 0, SV.int IntKind.i64 pid, SV.int IntKind.i64 status, SV.raw (Value.tuple #[]), SV.raw (Value.tuple #[]), SV.raw (Value.tuple #[]),
             SV.int IntKind.i64 (0 : Int), SV.ptr 2 pb 0, SV.bool !r.4, SV.raw (Value.tuple #[]), SV.raw (Value.tuple #[]),
             SV.tuple [SV.ptr 2 pb 0, SV.bool !r.4], SV.ptr 0 b 0, SV.int IntKind.i64 pid, SV.tuple [SV.ptr 2 pb 0, SV.bool !r.4],
             SV.ptr 2 pb 0, SV.bool !r.4, SV.bool !r.4, SV.bool !!r.4, SV.bool false, SV.int IntKind.i64 pid, SV.bool (pid == (1 : Int)), SV.bool false,
             SV.int IntKind.i64 status, SV.bool (decide (status < (-64 : Int))), SV.bool false, SV.int IntKind.i64 status, SV.bool (decide (status > (255 : Int))), SV.bool false,
             SV.ptr 2 pb 0, SV.ptr 2 pb 0, SV.int IntKind.i64 status, SV.ptr 2 pb 0, SV.ptr 2 pb 0,
             SV.ptr 2 pb 3, SV.ptr 2 pb 0, SV.ptr 2 pb 0, SV.ptr 2 pb 4, SV.raw (Value.tuple #[]),
             SV.raw (Value.tuple #[]), SV.raw (Value.tuple #[]), SV.raw (Value.tuple #[]), SV.raw (Value.tuple #[]), SV.raw (Value.tuple #[]), SV.raw (Value.tuple #[]),
             SV.raw (Value.tuple #[]), SV.raw (Value.tuple #[]), SV.raw (Value.tuple #[]), SV.raw (Value.tuple #[]), SV.raw (Value.tuple #[]), SV.raw (Value.tuple #[]),
             SV.raw (Value.tuple #[]), SV.raw (Value.tuple #[]), SV.raw (Value.tuple #[]), SV.raw (Value.tuple #[]), SV.raw (Value.tuple #[]), SV.raw (Value.tuple #[]),
             SV.raw (Value.tuple #[])]
            [Ent.mk (Loc.blk b) (SObj.cells [SV.map 1 s.1, SV.int IntKind.i64 s.3, SV.int IntKind.i64 s.4] (130 : TypeId)),
             Ent.mk (Loc.blk s.1) (SObj.map1 (some IntKind.i64) encB1 (List.map pkey s.2) (Key.i IntKind.i64 pid) (some (SV.ptr 2 pb 0))),
             Ent.mk (Loc.blk pb)
              (SObj.cells [SV.int IntKind.i64 r.1, SV.int IntKind.i64 r.2, SV.str r.3, SV.bool true, SV.int IntKind.i64 status, SV.str r.6, SV.bool r.7, SV.bool r.8] (127 : TypeId)),
             pk 0 rest])) := by kernel_rfl


theorem pExit_rng (K : List Frm → Sy → Prop) (N : List Ent → SV → Prop) (s : PT) (b : Nat) (rest : List Ent) (pid st : Int) (u : Nat → Value) : (run Try.prog [] false [8] K (retP Try.prog Try.f24.results.toList N) 900 (frmR [] (bodyOf Try.f24) 7) ⟨mkT u 58 0 [(0, .ptr 0 b 0), (1, .int .i64 pid), (2, .int .i64 st)], [⟨.blk b, .cells [.map 1 s.bm, .int .i64 s.room, .int .i64 s.last] 130⟩, ⟨.blk s.bm, .mapL (some .i64) encB1 (s.ps.map pkey)⟩, pk 0 rest]⟩) = (
b = b ∧
 s.1 = s.1 ∧
  ∀ (es' : List (Key × Nat × Nat)) (clk b_1 : Nat),
   List.map (fun (e : Key × Nat × Nat) ↦ (e.fst, e.snd.snd)) es' = List.map pkey s.2 →
    List.Nodup (List.map (fun (x : Key × Nat × Nat) ↦ x.snd.fst) es') →
     K (frm [] (bodyOf Try.f24) [1, 1, 1, 1, 1, 0, 1, 0] [])
      (Sy.mk
       [SV.ptr 0 b 0, SV.int IntKind.i64 pid, SV.int IntKind.i64 st, SV.raw (u 3), SV.raw (u 4), SV.raw (u 5), SV.raw (u 6),
        SV.raw (u 7), SV.raw (u 8), SV.raw (u 9), SV.raw (u 10), SV.raw (u 11), SV.raw (u 12), SV.raw (u 13), SV.raw (u 14),
        SV.raw (u 15), SV.raw (u 16), SV.raw (u 17), SV.raw (u 18), SV.raw (u 19), SV.raw (u 20), SV.raw (u 21), SV.raw (u 22),
        SV.raw (u 23), SV.raw (u 24), SV.raw (u 25), SV.raw (u 26), SV.raw (u 27), SV.raw (u 28), SV.raw (u 29), SV.raw (u 30),
        SV.raw (u 31), SV.raw (u 32), SV.raw (u 33), SV.raw (u 34), SV.raw (u 35), SV.raw (u 36), SV.raw (u 37),
        SV.ptr 0 b 0, SV.ptr 0 b 0, SV.ptr 0 b 0, SV.map 1 s.1, SV.ptr 3 b_1 0, SV.raw (u 43),
        SV.raw (u 44), SV.raw (u 45), SV.raw (u 46), SV.raw (u 47), SV.raw (u 48), SV.raw (u 49), SV.raw (u 50), SV.raw (u 51),
        SV.raw (u 52), SV.raw (u 53), SV.raw (u 54), SV.raw (u 55), SV.raw (u 56), SV.raw (u 57)]
       [Ent.mk (Loc.blk b) (SObj.cells [SV.map 1 s.1, SV.int IntKind.i64 s.3, SV.int IntKind.i64 s.4] (130 : TypeId)), Ent.mk (Loc.blk s.1) (SObj.mapS (some IntKind.i64) encB1 es' clk),
        pk 0 rest, Ent.mk (Loc.blk b_1) (SObj.iter 1 s.1 clk [])])) := by kernel_rfl


theorem pExit_head (K : List Frm → Sy → Prop) (N : List Ent → SV → Prop) (J : Act → World → Prop) (s : PT) (b : Nat) (rest : List Ent) (pid : Int) (es : List (Key × (Nat × Nat))) (clk bi : Nat) (seen : List Nat) (u : Nat → Value) : (run Try.prog [] false [10] K (retP Try.prog Try.f24.results.toList N) 900 (frm [J] (bodyOf Try.f24) [1, 1, 1, 1, 1, 0, 1, 0, 0] []) ⟨mkT u 58 0 [(0, .ptr 0 b 0), (1, .int .i64 pid), (42, .ptr 3 bi 0)], [⟨.blk b, .cells [.map 1 s.bm, .int .i64 s.room, .int .i64 s.last] 130⟩, ⟨.blk s.bm, .mapS (some .i64) encB1 es clk⟩, pk 0 rest, ⟨.blk bi, .iter 1 s.bm clk seen⟩]⟩) = (
(bi = bi ∧ s.1 = s.1 ∧ clk = clk) ∧
 (∀ (n : Int) (born v : Nat),
  (Key.i IntKind.i64 n, born, v) ∈ es →
   ¬born ∈ seen →
    (bi = bi ∧ s.1 = s.1 ∧ clk = clk) ∧
     ∃ (n_1 : Int),
      ∃ (born_1 : Nat),
       ∃ (v_1 : Nat),
        ∃ (seen0 : List Nat),
         (Key.i IntKind.i64 n_1, born_1, v_1) ∈ es ∧
          snoc seen born = snoc seen0 born_1 ∧
           K (frmR [J] (bodyOf Try.f24) 10)
            (Sy.mk
             [SV.ptr 0 b 0, SV.int IntKind.i64 pid, SV.raw (u 2), SV.raw (u 3), SV.raw (u 4), SV.raw (u 5), SV.raw (u 6),
              SV.raw (u 7), SV.raw (u 8), SV.raw (u 9), SV.ptr 2 v_1 0, SV.raw (u 11), SV.raw (u 12), SV.raw (u 13),
              SV.raw (u 14), SV.raw (u 15), SV.raw (u 16), SV.raw (u 17), SV.raw (u 18), SV.raw (u 19), SV.raw (u 20),
              SV.raw (u 21), SV.raw (u 22), SV.raw (u 23), SV.raw (u 24), SV.raw (u 25), SV.raw (u 26), SV.raw (u 27),
              SV.raw (u 28), SV.raw (u 29), SV.raw (u 30), SV.raw (u 31), SV.raw (u 32), SV.raw (u 33), SV.raw (u 34),
              SV.raw (u 35), SV.raw (u 36), SV.raw (u 37), SV.raw (u 38), SV.raw (u 39), SV.raw (u 40), SV.raw (u 41),
              SV.ptr 3 bi 0, SV.tuple [SV.bool true, SV.int IntKind.i64 n, SV.ptr 2 v 0], SV.bool true,
              SV.tuple [SV.int IntKind.i64 n_1, SV.ptr 2 v_1 0], SV.ptr 2 v_1 0, SV.raw (u 47), SV.raw (u 48), SV.raw (u 49),
              SV.raw (u 50), SV.raw (u 51), SV.raw (u 52), SV.raw (u 53), SV.raw (u 54), SV.raw (u 55), SV.raw (u 56),
              SV.raw (u 57)]
             [Ent.mk (Loc.blk b) (SObj.cells [SV.map 1 s.1, SV.int IntKind.i64 s.3, SV.int IntKind.i64 s.4] (130 : TypeId)),
              Ent.mk (Loc.blk s.1) (SObj.mapS (some IntKind.i64) encB1 es clk), pk 0 rest, Ent.mk (Loc.blk bi) (SObj.iter 1 s.1 clk (snoc seen born))])) ∧
  ((∀ (e : Key × Nat × Nat), e ∈ es → e.snd.fst ∈ seen) →
   N
    [Ent.mk (Loc.blk b) (SObj.cells [SV.map 1 s.1, SV.int IntKind.i64 s.3, SV.int IntKind.i64 s.4] (130 : TypeId)), Ent.mk (Loc.blk s.1) (SObj.mapS (some IntKind.i64) encB1 es clk),
     pk 0 rest, Ent.mk (Loc.blk bi) (SObj.iter 1 s.1 clk seen)]
    (SV.int IntKind.i64 (0 : Int)))) := by kernel_rfl


theorem pExit_body (K : List Frm → Sy → Prop) (N : List Ent → SV → Prop) (J0 : Act → World → Prop) (s : PT) (b pb : Nat) (r : PR) (rest : List Ent) (pid : Int) (es : List (Key × (Nat × Nat))) (clk bi : Nat) (seen : List Nat) (u : Nat → Value) : (run Try.prog [] false [] K (retP Try.prog Try.f24.results.toList N) 900 (frmR [J0] (bodyOf Try.f24) 10) ⟨mkT u 58 0 [(0, .ptr 0 b 0), (1, .int .i64 pid), (10, .ptr 4 pb 0), (42, .ptr 3 bi 0)], [⟨.blk b, .cells [.map 1 s.bm, .int .i64 s.room, .int .i64 s.last] 130⟩, ⟨.blk s.bm, .mapS (some .i64) encB1 es clk⟩, pk 0 rest, ⟨.blk bi, .iter 1 s.bm clk seen⟩, ⟨.blk pb, .cells (encR r) 127⟩]⟩) = (
pb = pb ∧
 match r.2 == pid with
 | true =>
  (pb = pb ∧ true = true ∧ 1 = 1 ∧ 2 ≤ 8) ∧
   K (Frm.loop J0 :: Frm.blk 0 :: frm [] (bodyOf Try.f24) [1, 1, 1, 1, 1, 1] [])
    (Sy.mk
     [SV.ptr 0 b 0, SV.int IntKind.i64 pid, SV.raw (u 2), SV.raw (u 3), SV.raw (u 4), SV.raw (u 5), SV.raw (u 6), SV.raw (u 7),
      SV.raw (u 8), SV.raw (u 9), SV.ptr 4 pb 0, SV.raw (u 11), SV.raw (u 12), SV.raw (u 13), SV.raw (u 14),
      SV.raw (u 15), SV.raw (u 16), SV.raw (u 17), SV.raw (u 18), SV.raw (u 19), SV.raw (u 20), SV.raw (u 21), SV.raw (u 22),
      SV.raw (u 23), SV.raw (u 24), SV.raw (u 25), SV.raw (u 26), SV.raw (u 27), SV.raw (u 28), SV.raw (u 29), SV.raw (u 30),
      SV.raw (u 31), SV.raw (u 32), SV.raw (u 33), SV.raw (u 34), SV.raw (u 35), SV.raw (u 36), SV.raw (u 37), SV.raw (u 38),
      SV.raw (u 39), SV.raw (u 40), SV.raw (u 41), SV.ptr 3 bi 0, SV.raw (u 43), SV.raw (u 44), SV.raw (u 45),
      SV.raw (u 46), SV.ptr 4 pb 0, SV.ptr 4 pb 0, SV.ptr 4 pb 0, SV.ptr 4 pb 1, SV.int IntKind.i64 r.2,
      SV.int IntKind.i64 pid, SV.bool true, SV.ptr 4 pb 0, SV.ptr 4 pb 0, SV.ptr 4 pb 0, SV.ptr 4 pb 1]
     [Ent.mk (Loc.blk b) (SObj.cells [SV.map 1 s.1, SV.int IntKind.i64 s.3, SV.int IntKind.i64 s.4] (130 : TypeId)), Ent.mk (Loc.blk s.1) (SObj.mapS (some IntKind.i64) encB1 es clk),
      pk 0 rest, Ent.mk (Loc.blk bi) (SObj.iter 1 s.1 clk seen),
      Ent.mk (Loc.blk pb)
       (SObj.cells [SV.int IntKind.i64 r.1, SV.int IntKind.i64 (1 : Int), SV.str r.3, SV.bool r.4, SV.int IntKind.i64 r.5, SV.str r.6, SV.bool r.7, SV.bool r.8] (127 : TypeId))])
 | false =>
  K (Frm.loop J0 :: Frm.blk 0 :: frm [] (bodyOf Try.f24) [1, 1, 1, 1, 1, 1] [])
   (Sy.mk
    [SV.ptr 0 b 0, SV.int IntKind.i64 pid, SV.raw (u 2), SV.raw (u 3), SV.raw (u 4), SV.raw (u 5), SV.raw (u 6), SV.raw (u 7),
     SV.raw (u 8), SV.raw (u 9), SV.ptr 4 pb 0, SV.raw (u 11), SV.raw (u 12), SV.raw (u 13), SV.raw (u 14), SV.raw (u 15),
     SV.raw (u 16), SV.raw (u 17), SV.raw (u 18), SV.raw (u 19), SV.raw (u 20), SV.raw (u 21), SV.raw (u 22), SV.raw (u 23),
     SV.raw (u 24), SV.raw (u 25), SV.raw (u 26), SV.raw (u 27), SV.raw (u 28), SV.raw (u 29), SV.raw (u 30), SV.raw (u 31),
     SV.raw (u 32), SV.raw (u 33), SV.raw (u 34), SV.raw (u 35), SV.raw (u 36), SV.raw (u 37), SV.raw (u 38), SV.raw (u 39),
     SV.raw (u 40), SV.raw (u 41), SV.ptr 3 bi 0, SV.raw (u 43), SV.raw (u 44), SV.raw (u 45), SV.raw (u 46),
     SV.ptr 4 pb 0, SV.ptr 4 pb 0, SV.ptr 4 pb 0, SV.ptr 4 pb 1, SV.int IntKind.i64 r.2, SV.int IntKind.i64 pid, SV.bool false,
     SV.raw (u 54), SV.raw (u 55), SV.raw (u 56), SV.raw (u 57)]
    [Ent.mk (Loc.blk b) (SObj.cells [SV.map 1 s.1, SV.int IntKind.i64 s.3, SV.int IntKind.i64 s.4] (130 : TypeId)), Ent.mk (Loc.blk s.1) (SObj.mapS (some IntKind.i64) encB1 es clk),
     pk 0 rest, Ent.mk (Loc.blk bi) (SObj.iter 1 s.1 clk seen),
     Ent.mk (Loc.blk pb) (SObj.cells [SV.int IntKind.i64 r.1, SV.int IntKind.i64 r.2, SV.str r.3, SV.bool r.4, SV.int IntKind.i64 r.5, SV.str r.6, SV.bool r.7, SV.bool r.8] (127 : TypeId))])) := by kernel_rfl
end Go.Proofs.Ytihajdkipkfiiaa
