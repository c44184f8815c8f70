/-
  DERIVED. GIVEN WITH THE SEED: THE CARDS: each row of YtjnkfgigpapeaaaDoorRows.lean that lists a variable, with what it lists TIED to the program's text (the seventh form; the later family's looks); each row that meets fmt, with fmt's text TOLD by the authors' own Lean function (tested against real Go, not proved from fmt's source: count such statements apart). THE CARD IS WHAT COUNTS. Prove the row's statement (the work); the ties are given (YtjnkfgigpapeaaaDoorTie.lean); close each card by the builder's one call (the guide's Derived/Test/ToyasCard.lean, 'card_holds'). Laid BY PROGRAM, IN A SANDBOX (cutbox-door.mjs). By AI agents, Wed Nov 11 2026. No macro, syntax, notation, axiom, sorry.
-/
import Derived.Test.YtjnkfgigpapeaaaDoorRows
import GoSem.ClaimSeven
namespace Go.Proofs.YtjnkfgigpapeaaaDoor
namespace Rows

/-- THE TIED CARD OF 'reveillelaw2.CivilOrder'. -/
def civilOrderCard : Claim7 := { stood := { row := civilOrderRow, standIns := [], harness := (true, "ae20e1c5239c3acb6a3103a888e3d9a0f2fa9167534dcd994f8f841e50570ce8"), looks := false }, kinds := [], alts := [], laidByText := true, laidKinds := [.data, .data, .data], laidTests := true, laidLooks := .later }
def CivilOrderCardSaid : Prop := Claim7.holds Tryd.pinned (.plain (OpenSpec.ofChange civilOrderSpec)) civilOrderCard

/-- THE TIED CARD OF 'reveillelaw2.CivilTells'. -/
def civilTellsCard : Claim7 := { stood := { row := civilTellsRow, standIns := [], harness := (true, "ae20e1c5239c3acb6a3103a888e3d9a0f2fa9167534dcd994f8f841e50570ce8"), looks := false }, kinds := [], alts := [], laidByText := true, laidKinds := [.data, .data, .data], laidTests := true, laidLooks := .later }
def CivilTellsCardSaid : Prop := Claim7.holds Tryd.pinned (.plain (OpenSpec.ofChange civilTellsSpec)) civilTellsCard

/-- THE TIED CARD OF 'reveillelaw11.TreeDeep'. -/
def treeDeepCard : Claim7 := { stood := { row := treeDeepRow, standIns := [], harness := (true, "ae20e1c5239c3acb6a3103a888e3d9a0f2fa9167534dcd994f8f841e50570ce8"), looks := false }, kinds := [], alts := [], laidByText := true, laidKinds := [.data, .pinned], laidTests := true, laidLooks := .later }
def TreeDeepCardSaid : Prop := Claim7.holds Tryd.pinned (.plain (OpenSpec.ofChange treeDeepSpec)) treeDeepCard

/-- THE TIED CARD OF 'reveillelaw11.TreeHolds'. -/
def treeHoldsCard : Claim7 := { stood := { row := treeHoldsRow, standIns := [], harness := (true, "ae20e1c5239c3acb6a3103a888e3d9a0f2fa9167534dcd994f8f841e50570ce8"), looks := false }, kinds := [], alts := [], laidByText := true, laidKinds := [.data, .pinned], laidTests := true, laidLooks := .later }
def TreeHoldsCardSaid : Prop := Claim7.holds Tryd.pinned (.plain (OpenSpec.ofChange treeHoldsSpec)) treeHoldsCard

/-- THE TIED CARD OF 'reveillelaw11.TreeMounts'. -/
def treeMountsCard : Claim7 := { stood := { row := treeMountsRow, standIns := [], harness := (true, "ae20e1c5239c3acb6a3103a888e3d9a0f2fa9167534dcd994f8f841e50570ce8"), looks := false }, kinds := [], alts := [], laidByText := true, laidKinds := [.data, .pinned], laidTests := true, laidLooks := .later }
def TreeMountsCardSaid : Prop := Claim7.holds Tryd.pinned (.plain (OpenSpec.ofChange treeMountsSpec)) treeMountsCard

/-- THE SECOND FORM's CARD OF 'reveillelaw2.CivilOrder'. -/
def civilOrderUptoCard : Claim7 := { stood := { row := civilOrderUptoRow, standIns := [], harness := (true, "ae20e1c5239c3acb6a3103a888e3d9a0f2fa9167534dcd994f8f841e50570ce8"), looks := false }, kinds := [], alts := [], laidByText := true, laidKinds := [.data, .data, .data], laidTests := true, laidLooks := .later }
def CivilOrderUptoCardSaid : Prop := Claim7.holds Tryd.pinned (.plain (OpenSpec.upto civilOrderSpec)) civilOrderUptoCard

/-- THE SECOND FORM's CARD OF 'reveillelaw2.CivilTells'. -/
def civilTellsUptoCard : Claim7 := { stood := { row := civilTellsUptoRow, standIns := [], harness := (true, "ae20e1c5239c3acb6a3103a888e3d9a0f2fa9167534dcd994f8f841e50570ce8"), looks := false }, kinds := [], alts := [], laidByText := true, laidKinds := [.data, .data, .data], laidTests := true, laidLooks := .later }
def CivilTellsUptoCardSaid : Prop := Claim7.holds Tryd.pinned (.plain (OpenSpec.upto civilTellsSpec)) civilTellsUptoCard

/-- THE SECOND FORM's CARD OF 'reveillelaw11.TreeDeep'. -/
def treeDeepUptoCard : Claim7 := { stood := { row := treeDeepUptoRow, standIns := [], harness := (true, "ae20e1c5239c3acb6a3103a888e3d9a0f2fa9167534dcd994f8f841e50570ce8"), looks := false }, kinds := [], alts := [], laidByText := true, laidKinds := [.data, .pinned], laidTests := true, laidLooks := .later }
def TreeDeepUptoCardSaid : Prop := Claim7.holds Tryd.pinned (.plain (OpenSpec.upto treeDeepSpec)) treeDeepUptoCard

/-- THE SECOND FORM's CARD OF 'reveillelaw11.TreeHolds'. -/
def treeHoldsUptoCard : Claim7 := { stood := { row := treeHoldsUptoRow, standIns := [], harness := (true, "ae20e1c5239c3acb6a3103a888e3d9a0f2fa9167534dcd994f8f841e50570ce8"), looks := false }, kinds := [], alts := [], laidByText := true, laidKinds := [.data, .pinned], laidTests := true, laidLooks := .later }
def TreeHoldsUptoCardSaid : Prop := Claim7.holds Tryd.pinned (.plain (OpenSpec.upto treeHoldsSpec)) treeHoldsUptoCard

/-- THE SECOND FORM's CARD OF 'reveillelaw11.TreeMounts'. -/
def treeMountsUptoCard : Claim7 := { stood := { row := treeMountsUptoRow, standIns := [], harness := (true, "ae20e1c5239c3acb6a3103a888e3d9a0f2fa9167534dcd994f8f841e50570ce8"), looks := false }, kinds := [], alts := [], laidByText := true, laidKinds := [.data, .pinned], laidTests := true, laidLooks := .later }
def TreeMountsUptoCardSaid : Prop := Claim7.holds Tryd.pinned (.plain (OpenSpec.upto treeMountsSpec)) treeMountsUptoCard
end Rows
end Go.Proofs.YtjnkfgigpapeaaaDoor
